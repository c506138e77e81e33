-- printed by a program of this session, made after the kit's own printer
import Derived.Test.YtiklcnlehlpdaaaPOpsx0
import Derived.Test.YtiklcnlehlpdaaaPOpsx2
namespace Go.Proofs.Ytiklcnlehlpdaaa.POps
open Go.RowKit Go.Proofs.YtiklcnlehlpdaaaW.PrintWords Go.Proofs.YtiklcnlehlpdaaaW.PrintLast Go.Proofs.YtiklcnlehlpdaaaW.PrintMore
attribute [local go_sem] max2_int min2_int max_two min_two max_three min_three max_four min_four   -- for this text's walks alone
set_option linter.unusedVariables false
set_option linter.unusedSimpArgs false

/-! ### class_Of: function 33 -/
mutual
def class_Of.j0 : Nat → Bool → Bool → Bool → Int → Int → Int → Int → Int → Int → Int → Int → Int → Int → Int → List Int → List (S70) → Option (Int)
  | 0, _, _, _, _, _, _, _, _, _, _, _, _, _, _, _, _ => none
  | k + 1, x4, x6, x24, x350000, x350001, x350002, x350003, x350004, x350005, x350006, x350007, x350008, x350009, x350010, x350011, x350012 => if x24 = true then (some 1) else (if x4 = true then (class_Of.j1 k x4 x6 false x350000 x350001 x350002 x350003 x350004 x350005 x350006 x350007 x350008 x350009 x350010 x350011 x350012) else (if x6 = true then (class_Of.j1 k x4 x6 (x350007 == 0) x350000 x350001 x350002 x350003 x350004 x350005 x350006 x350007 x350008 x350009 x350010 x350011 x350012) else (class_Of.j1 k x4 x6 false x350000 x350001 x350002 x350003 x350004 x350005 x350006 x350007 x350008 x350009 x350010 x350011 x350012)))
def class_Of.j1 : Nat → Bool → Bool → Bool → Int → Int → Int → Int → Int → Int → Int → Int → Int → Int → Int → List Int → List (S70) → Option (Int)
  | 0, _, _, _, _, _, _, _, _, _, _, _, _, _, _, _, _ => none
  | k + 1, x4, x6, x34, x350000, x350001, x350002, x350003, x350004, x350005, x350006, x350007, x350008, x350009, x350010, x350011, x350012 => if x34 = true then (some 2) else (if x4 = true then (some 0) else (if x6 = true then (some 0) else (if x350007 = 0 then (some 0) else (some 3))))
end
def class_Of.f (k : Nat) (a0_0 : Int) (a0_1 : Int) (a0_2 : Int) (a0_3 : Int) (a0_4 : Int) (a0_5 : Int) (a0_6 : Int) (a0_7 : Int) (a0_8 : Int) (a0_9 : Int) (a0_10 : Int) (l0_11 : List Int) (l0_12 : List (S70)) : Option (Int) := (opts_Number.f k l0_12 54).bind fun bt350 => ((opts_Number.f k l0_12 50).bind fun bt352 => ((opts_KindOf.f k l0_12).bind fun t354 => (if t354 = 3 then (if bt350.2 = true then (if bt352.2 = true then (class_Of.j0 k bt350.2 bt352.2 (a0_7 == 0) a0_0 a0_1 a0_2 a0_3 a0_4 a0_5 a0_6 a0_7 a0_8 a0_9 a0_10 l0_11 l0_12) else (class_Of.j0 k bt350.2 bt352.2 false a0_0 a0_1 a0_2 a0_3 a0_4 a0_5 a0_6 a0_7 a0_8 a0_9 a0_10 l0_11 l0_12)) else (class_Of.j0 k bt350.2 bt352.2 false a0_0 a0_1 a0_2 a0_3 a0_4 a0_5 a0_6 a0_7 a0_8 a0_9 a0_10 l0_11 l0_12)) else (some 0))))
theorem class_Of.mono_l : ∀ k, (∀ y0 y1 y2 y3 y4 y5 y6 y7 y8 y9 y10 y11 y12 y13 y14 y15, LeO (class_Of.j0 k y0 y1 y2 y3 y4 y5 y6 y7 y8 y9 y10 y11 y12 y13 y14 y15) (class_Of.j0 (k + 1) y0 y1 y2 y3 y4 y5 y6 y7 y8 y9 y10 y11 y12 y13 y14 y15)) ∧ (∀ y0 y1 y2 y3 y4 y5 y6 y7 y8 y9 y10 y11 y12 y13 y14 y15, LeO (class_Of.j1 k y0 y1 y2 y3 y4 y5 y6 y7 y8 y9 y10 y11 y12 y13 y14 y15) (class_Of.j1 (k + 1) y0 y1 y2 y3 y4 y5 y6 y7 y8 y9 y10 y11 y12 y13 y14 y15))
  | 0 => ⟨fun _ _ _ _ _ _ _ _ _ _ _ _ _ _ _ _ r h => by simp [class_Of.j0] at h, fun _ _ _ _ _ _ _ _ _ _ _ _ _ _ _ _ r h => by simp [class_Of.j1] at h⟩
  | k + 1 => by
    obtain ⟨ih0, ih1⟩ := class_Of.mono_l k
    refine ⟨?_, ?_⟩
    · intro y0 y1 y2 y3 y4 y5 y6 y7 y8 y9 y10 y11 y12 y13 y14 y15
      unfold class_Of.j0
      repeat' first
      | (with_reducible exact ih0 _ _ _ _ _ _ _ _ _ _ _ _ _ _ _ _)
      | (with_reducible exact ih1 _ _ _ _ _ _ _ _ _ _ _ _ _ _ _ _)
      | (with_reducible exact opts_KindOf.mono _ _)
      | (with_reducible exact opts_Number.mono _ _ _)
      | (with_reducible exact LeO.refl _)
      | (with_reducible exact LeO.none _)
      | (with_reducible refine LeO.ite ?_ ?_)
      | (with_reducible refine LeO.bind ?_ (fun _ => ?_))
      | exact ih0 _ _ _ _ _ _ _ _ _ _ _ _ _ _ _ _
      | exact ih1 _ _ _ _ _ _ _ _ _ _ _ _ _ _ _ _
      | exact opts_KindOf.mono _ _
      | exact opts_Number.mono _ _ _
      | exact LeO.none _
      | refine LeO.ite ?_ ?_
      | refine LeO.bind ?_ (fun _ => ?_)
    · intro y0 y1 y2 y3 y4 y5 y6 y7 y8 y9 y10 y11 y12 y13 y14 y15
      unfold class_Of.j1
      repeat' first
      | (with_reducible exact ih0 _ _ _ _ _ _ _ _ _ _ _ _ _ _ _ _)
      | (with_reducible exact ih1 _ _ _ _ _ _ _ _ _ _ _ _ _ _ _ _)
      | (with_reducible exact opts_KindOf.mono _ _)
      | (with_reducible exact opts_Number.mono _ _ _)
      | (with_reducible exact LeO.refl _)
      | (with_reducible exact LeO.none _)
      | (with_reducible refine LeO.ite ?_ ?_)
      | (with_reducible refine LeO.bind ?_ (fun _ => ?_))
      | exact ih0 _ _ _ _ _ _ _ _ _ _ _ _ _ _ _ _
      | exact ih1 _ _ _ _ _ _ _ _ _ _ _ _ _ _ _ _
      | exact opts_KindOf.mono _ _
      | exact opts_Number.mono _ _ _
      | exact LeO.none _
      | refine LeO.ite ?_ ?_
      | refine LeO.bind ?_ (fun _ => ?_)
theorem class_Of.mono : ∀ a0 a1 a2 a3 a4 a5 a6 a7 a8 a9 a10 a11 a12 k, LeO (class_Of.f k a0 a1 a2 a3 a4 a5 a6 a7 a8 a9 a10 a11 a12) (class_Of.f (k + 1) a0 a1 a2 a3 a4 a5 a6 a7 a8 a9 a10 a11 a12) := by
  intro a0 a1 a2 a3 a4 a5 a6 a7 a8 a9 a10 a11 a12 k
  obtain ⟨ih0, ih1⟩ := class_Of.mono_l k
  unfold class_Of.f
  repeat' first
      | (with_reducible exact ih0 _ _ _ _ _ _ _ _ _ _ _ _ _ _ _ _)
      | (with_reducible exact ih1 _ _ _ _ _ _ _ _ _ _ _ _ _ _ _ _)
      | (with_reducible exact opts_KindOf.mono _ _)
      | (with_reducible exact opts_Number.mono _ _ _)
      | (with_reducible exact LeO.refl _)
      | (with_reducible exact LeO.none _)
      | (with_reducible refine LeO.ite ?_ ?_)
      | (with_reducible refine LeO.bind ?_ (fun _ => ?_))
      | exact ih0 _ _ _ _ _ _ _ _ _ _ _ _ _ _ _ _
      | exact ih1 _ _ _ _ _ _ _ _ _ _ _ _ _ _ _ _
      | exact opts_KindOf.mono _ _
      | exact opts_Number.mono _ _ _
      | exact LeO.none _
      | refine LeO.ite ?_ ?_
      | refine LeO.bind ?_ (fun _ => ?_)
set_option maxHeartbeats 8000000 in
set_option maxRecDepth 100000 in
theorem class_Of.calls (k : Nat) (a0_0 : Int) (a0_1 : Int) (a0_2 : Int) (a0_3 : Int) (a0_4 : Int) (a0_5 : Int) (a0_6 : Int) (a0_7 : Int) (a0_8 : Int) (a0_9 : Int) (a0_10 : Int) (A0_11 : Option Addr) (c0_11 : Nat) (l0_11 : List Int) (A0_12 : Option Addr) (c0_12 : Nat) (l0_12 : List (S70)) (r : Int) (w : World) (hr0_11 : Kd.C (Kd.int .u8) w A0_11 l0_11.length l0_11) (hc0_11 : l0_11.length ≤ c0_11) (hr0_12 : Kd.C k70 w A0_12 l0_12.length l0_12) (hc0_12 : l0_12.length ≤ c0_12) (h : class_Of.f k a0_0 a0_1 a0_2 a0_3 a0_4 a0_5 a0_6 a0_7 a0_8 a0_9 a0_10 l0_11 l0_12 = some r) :
    Calls Try.prog 33 #[.agg #[.int .i64 a0_0, .int .i64 a0_1, .int .i64 a0_2, .int .i64 a0_3, .int .i64 a0_4, .int .i64 a0_5, .int .i64 a0_6, .int .i64 a0_7, .int .i64 a0_8, .int .i64 a0_9, .int .i64 a0_10, .slice A0_11 l0_11.length c0_11, .slice A0_12 l0_12.length c0_12]] w fun e w' => e = .returned (.int .i64 r) ∧ Below w.heap.size w w' := by
  have hu42 := Try.underlying42
  have HR0_11 := Aside0.mk hr0_11
  have HC0_11 := Aside0.mk hc0_11
  clear hr0_11 hc0_11
  have HR0_12 := Aside0.mk hr0_12
  have HC0_12 := Aside0.mk hc0_12
  clear hr0_12 hc0_12
  have HB := Aside0.mk (Below.refl w.heap.size w)
  have H : ((opts_Number.f k l0_12 54).bind fun bt350 => ((opts_Number.f k l0_12 50).bind fun bt352 => ((opts_KindOf.f k l0_12).bind fun t354 => (if t354 = 3 then (if bt350.2 = true then (if bt352.2 = true then (class_Of.j0 k bt350.2 bt352.2 (a0_7 == 0) a0_0 a0_1 a0_2 a0_3 a0_4 a0_5 a0_6 a0_7 a0_8 a0_9 a0_10 l0_11 l0_12) else (class_Of.j0 k bt350.2 bt352.2 false a0_0 a0_1 a0_2 a0_3 a0_4 a0_5 a0_6 a0_7 a0_8 a0_9 a0_10 l0_11 l0_12)) else (class_Of.j0 k bt350.2 bt352.2 false a0_0 a0_1 a0_2 a0_3 a0_4 a0_5 a0_6 a0_7 a0_8 a0_9 a0_10 l0_11 l0_12)) else (some 0))))) = some r := h
  clear h
  replace H := Option.bind_eq_some_iff.mp H
  obtain ⟨⟨t350, t351⟩, A20, H⟩ := H
  replace H : ((opts_Number.f k l0_12 50).bind fun bt352 => ((opts_KindOf.f k l0_12).bind fun t354 => (if t354 = 3 then (if t351 = true then (if bt352.2 = true then (class_Of.j0 k t351 bt352.2 (a0_7 == 0) a0_0 a0_1 a0_2 a0_3 a0_4 a0_5 a0_6 a0_7 a0_8 a0_9 a0_10 l0_11 l0_12) else (class_Of.j0 k t351 bt352.2 false a0_0 a0_1 a0_2 a0_3 a0_4 a0_5 a0_6 a0_7 a0_8 a0_9 a0_10 l0_11 l0_12)) else (class_Of.j0 k t351 bt352.2 false a0_0 a0_1 a0_2 a0_3 a0_4 a0_5 a0_6 a0_7 a0_8 a0_9 a0_10 l0_11 l0_12)) else (some 0)))) = some r := H
  have A2 := Aside0.mk A20
  clear A20
  replace H := Option.bind_eq_some_iff.mp H
  obtain ⟨⟨t352, t353⟩, A30, H⟩ := H
  replace H : ((opts_KindOf.f k l0_12).bind fun t354 => (if t354 = 3 then (if t351 = true then (if t353 = true then (class_Of.j0 k t351 t353 (a0_7 == 0) a0_0 a0_1 a0_2 a0_3 a0_4 a0_5 a0_6 a0_7 a0_8 a0_9 a0_10 l0_11 l0_12) else (class_Of.j0 k t351 t353 false a0_0 a0_1 a0_2 a0_3 a0_4 a0_5 a0_6 a0_7 a0_8 a0_9 a0_10 l0_11 l0_12)) else (class_Of.j0 k t351 t353 false a0_0 a0_1 a0_2 a0_3 a0_4 a0_5 a0_6 a0_7 a0_8 a0_9 a0_10 l0_11 l0_12)) else (some 0))) = some r := H
  have A3 := Aside0.mk A30
  clear A30
  replace H := Option.bind_eq_some_iff.mp H
  obtain ⟨t354, A40, H⟩ := H
  replace H : (if t354 = 3 then (if t351 = true then (if t353 = true then (class_Of.j0 k t351 t353 (a0_7 == 0) a0_0 a0_1 a0_2 a0_3 a0_4 a0_5 a0_6 a0_7 a0_8 a0_9 a0_10 l0_11 l0_12) else (class_Of.j0 k t351 t353 false a0_0 a0_1 a0_2 a0_3 a0_4 a0_5 a0_6 a0_7 a0_8 a0_9 a0_10 l0_11 l0_12)) else (class_Of.j0 k t351 t353 false a0_0 a0_1 a0_2 a0_3 a0_4 a0_5 a0_6 a0_7 a0_8 a0_9 a0_10 l0_11 l0_12)) else (some 0)) = some r := H
  have A4 := Aside0.mk A40
  clear A40
  by_cases c5 : t354 = 3
  · rw [if_pos c5] at H
    have c5b0 : (t354 == 3) = true := beq_iff_eq.mpr c5
    have c5b1 : (t354 != 3) = false := bne_eq_false_iff_eq.mpr c5
    clear c5
    have HC6 := Aside0.mk H
    clear H
    go_enter Try.func33, Try.ntmps33
    go_upto_region 5 with (first | ((with_reducible refine gate_dst (N := 1) rfl ?_); refine box_event ?hg (N := 1) ?hd (cs := #[.int .i64 a0_0, .int .i64 a0_1, .int .i64 a0_2, .int .i64 a0_3, .int .i64 a0_4, .int .i64 a0_5, .int .i64 a0_6, .int .i64 a0_7, .int .i64 a0_8, .int .i64 a0_9, .int .i64 a0_10, .slice A0_11 l0_11.length c0_11, .slice A0_12 l0_12.length c0_12]) (t := 42) ?hr ?_; (case hd => rfl); (case hg => rfl); (case hr => first | (go_simp; done) | (go_simp; rfl)); intro gb349 hg w7 hbox hb; have n0_ := Aside0.mk (below_step (by repeat (first | (with_reducible first | exact HB.out | apply below_alloc | apply pw_below_drewN | apply below_drew1) | exact HB.out)) hb); have n1_ := Aside0.mk (hbox); have n2_ := Aside0.mk ((by rw [hg]; exact (below_size (by repeat (first | (with_reducible first | exact HB.out | apply below_alloc | apply pw_below_drewN | apply below_drew1) | exact HB.out))) : w.heap.size ≤ gb349)); have n3_ := Aside0.mk ((by rw [hg]; exact (below_size (by repeat (first | (with_reducible first | exact HB.out | apply below_alloc | apply pw_below_drewN | apply below_drew1) | exact HB.out))) : w.heap.size ≤ gb349)); clear HB; have HB := n0_; have BK349 := n1_; have GW349 := n2_; have GE349 := n3_; clear n0_ n1_ n2_ n3_; clear hb hbox hg; have hcz8_0 : w7.cell? ⟨gb349, 0, none⟩ = some (.int .i64 a0_0) := (blk_cell BK349.out 0).trans rfl; have hcz8_1 : w7.cell? ⟨gb349, 1, none⟩ = some (.int .i64 a0_1) := (blk_cell BK349.out 1).trans rfl; have hcz8_2 : w7.cell? ⟨gb349, 2, none⟩ = some (.int .i64 a0_2) := (blk_cell BK349.out 2).trans rfl; have hcz8_3 : w7.cell? ⟨gb349, 3, none⟩ = some (.int .i64 a0_3) := (blk_cell BK349.out 3).trans rfl; have hcz8_4 : w7.cell? ⟨gb349, 4, none⟩ = some (.int .i64 a0_4) := (blk_cell BK349.out 4).trans rfl; have hcz8_5 : w7.cell? ⟨gb349, 5, none⟩ = some (.int .i64 a0_5) := (blk_cell BK349.out 5).trans rfl; have hcz8_6 : w7.cell? ⟨gb349, 6, none⟩ = some (.int .i64 a0_6) := (blk_cell BK349.out 6).trans rfl; have hcz8_7 : w7.cell? ⟨gb349, 7, none⟩ = some (.int .i64 a0_7) := (blk_cell BK349.out 7).trans rfl; have hcz8_8 : w7.cell? ⟨gb349, 8, none⟩ = some (.int .i64 a0_8) := (blk_cell BK349.out 8).trans rfl; have hcz8_9 : w7.cell? ⟨gb349, 9, none⟩ = some (.int .i64 a0_9) := (blk_cell BK349.out 9).trans rfl; have hcz8_10 : w7.cell? ⟨gb349, 10, none⟩ = some (.int .i64 a0_10) := (blk_cell BK349.out 10).trans rfl; have hcz8_11 : w7.cell? ⟨gb349, 11, none⟩ = some (.slice A0_11 l0_11.length c0_11) := (blk_cell BK349.out 11).trans rfl; have hcz8_12 : w7.cell? ⟨gb349, 12, none⟩ = some (.slice A0_12 l0_12.length c0_12) := (blk_cell BK349.out 12).trans rfl; have hfz8_0 := blk_frozen BK349.out 0; have hfz8_1 := blk_frozen BK349.out 1; have hfz8_2 := blk_frozen BK349.out 2; have hfz8_3 := blk_frozen BK349.out 3; have hfz8_4 := blk_frozen BK349.out 4; have hfz8_5 := blk_frozen BK349.out 5; have hfz8_6 := blk_frozen BK349.out 6; have hfz8_7 := blk_frozen BK349.out 7; have hfz8_8 := blk_frozen BK349.out 8; have hfz8_9 := blk_frozen BK349.out 9; have hfz8_10 := blk_frozen BK349.out 10; have hfz8_11 := blk_frozen BK349.out 11; have hfz8_12 := blk_frozen BK349.out 12) | ((with_reducible refine gate_callee (f := 44) rfl ?_); refine goesL_ (some 10) rfl rfl Try.func44 (by kernel_rfl) rfl #[.slice A0_12 l0_12.length c0_12, .int .i64 54] rfl (by (try simp only [List.map_toArray, List.map_cons, List.map_nil]); first | done | rfl | (simp only [List.length_drop, List.length_take]; rfl)) ?_; (with_reducible refine (opts_Number.calls k _ _ l0_12 54 t350 t351 _ ?side1 ?side2 A2.out).mono ?_); (case side1 => repeat (first | exact (Kd.C_below HR0_12.out HB.out) | (with_reducible refine Kd.C_alloc ?_ _) | (with_reducible refine Kd.C_drewN ?_ _) | (with_reducible refine Kd.C_drew ?_))); (case side2 => exact HC0_12.out); rintro e w9 ⟨rfl, hb⟩; refine ⟨_, rfl, ?_⟩; have n0_ := Aside0.mk (blk_below (g := gb349) (o := .cells #[.int .i64 a0_0, .int .i64 a0_1, .int .i64 a0_2, .int .i64 a0_3, .int .i64 a0_4, .int .i64 a0_5, .int .i64 a0_6, .int .i64 a0_7, .int .i64 a0_8, .int .i64 a0_9, .int .i64 a0_10, .slice A0_11 l0_11.length c0_11, .slice A0_12 l0_12.length c0_12] 42 (0, 0)) (by (with_reducible repeat (first | refine blk_drewN ?_ _ | refine blk_drew ?_ | refine blk_alloc ?_ _)); exact BK349.out) hb); have n1_ := Aside0.mk (below_step (by repeat (first | (with_reducible first | exact HB.out | apply below_alloc | apply pw_below_drewN | apply below_drew1 | refine below_set ?_ GE349.out) | exact HB.out)) hb); clear BK349; clear HB; have BK349 := n0_; have HB := n1_; clear n0_ n1_; (try clear hb); (try clear hb2); (try clear hk); (try clear hi); have hcz10_0 : w9.cell? ⟨gb349, 0, none⟩ = some (.int .i64 a0_0) := (blk_cell BK349.out 0).trans rfl; have hcz10_1 : w9.cell? ⟨gb349, 1, none⟩ = some (.int .i64 a0_1) := (blk_cell BK349.out 1).trans rfl; have hcz10_2 : w9.cell? ⟨gb349, 2, none⟩ = some (.int .i64 a0_2) := (blk_cell BK349.out 2).trans rfl; have hcz10_3 : w9.cell? ⟨gb349, 3, none⟩ = some (.int .i64 a0_3) := (blk_cell BK349.out 3).trans rfl; have hcz10_4 : w9.cell? ⟨gb349, 4, none⟩ = some (.int .i64 a0_4) := (blk_cell BK349.out 4).trans rfl; have hcz10_5 : w9.cell? ⟨gb349, 5, none⟩ = some (.int .i64 a0_5) := (blk_cell BK349.out 5).trans rfl; have hcz10_6 : w9.cell? ⟨gb349, 6, none⟩ = some (.int .i64 a0_6) := (blk_cell BK349.out 6).trans rfl; have hcz10_7 : w9.cell? ⟨gb349, 7, none⟩ = some (.int .i64 a0_7) := (blk_cell BK349.out 7).trans rfl; have hcz10_8 : w9.cell? ⟨gb349, 8, none⟩ = some (.int .i64 a0_8) := (blk_cell BK349.out 8).trans rfl; have hcz10_9 : w9.cell? ⟨gb349, 9, none⟩ = some (.int .i64 a0_9) := (blk_cell BK349.out 9).trans rfl; have hcz10_10 : w9.cell? ⟨gb349, 10, none⟩ = some (.int .i64 a0_10) := (blk_cell BK349.out 10).trans rfl; have hcz10_11 : w9.cell? ⟨gb349, 11, none⟩ = some (.slice A0_11 l0_11.length c0_11) := (blk_cell BK349.out 11).trans rfl; have hcz10_12 : w9.cell? ⟨gb349, 12, none⟩ = some (.slice A0_12 l0_12.length c0_12) := (blk_cell BK349.out 12).trans rfl; have hfz10_0 := blk_frozen BK349.out 0; have hfz10_1 := blk_frozen BK349.out 1; have hfz10_2 := blk_frozen BK349.out 2; have hfz10_3 := blk_frozen BK349.out 3; have hfz10_4 := blk_frozen BK349.out 4; have hfz10_5 := blk_frozen BK349.out 5; have hfz10_6 := blk_frozen BK349.out 6; have hfz10_7 := blk_frozen BK349.out 7; have hfz10_8 := blk_frozen BK349.out 8; have hfz10_9 := blk_frozen BK349.out 9; have hfz10_10 := blk_frozen BK349.out 10; have hfz10_11 := blk_frozen BK349.out 11; have hfz10_12 := blk_frozen BK349.out 12) | ((with_reducible refine gate_callee (f := 44) rfl ?_); refine goesL_ (some 16) rfl rfl Try.func44 (by kernel_rfl) rfl #[.slice A0_12 l0_12.length c0_12, .int .i64 50] rfl (by (try simp only [List.map_toArray, List.map_cons, List.map_nil]); first | done | rfl | (simp only [List.length_drop, List.length_take]; rfl)) ?_; (with_reducible refine (opts_Number.calls k _ _ l0_12 50 t352 t353 _ ?side1 ?side2 A3.out).mono ?_); (case side1 => repeat (first | exact (Kd.C_below HR0_12.out HB.out) | (with_reducible refine Kd.C_alloc ?_ _) | (with_reducible refine Kd.C_drewN ?_ _) | (with_reducible refine Kd.C_drew ?_))); (case side2 => exact HC0_12.out); rintro e w11 ⟨rfl, hb⟩; refine ⟨_, rfl, ?_⟩; have n0_ := Aside0.mk (blk_below (g := gb349) (o := .cells #[.int .i64 a0_0, .int .i64 a0_1, .int .i64 a0_2, .int .i64 a0_3, .int .i64 a0_4, .int .i64 a0_5, .int .i64 a0_6, .int .i64 a0_7, .int .i64 a0_8, .int .i64 a0_9, .int .i64 a0_10, .slice A0_11 l0_11.length c0_11, .slice A0_12 l0_12.length c0_12] 42 (0, 0)) (by (with_reducible repeat (first | refine blk_drewN ?_ _ | refine blk_drew ?_ | refine blk_alloc ?_ _)); exact BK349.out) hb); have n1_ := Aside0.mk (below_step (by repeat (first | (with_reducible first | exact HB.out | apply below_alloc | apply pw_below_drewN | apply below_drew1 | refine below_set ?_ GE349.out) | exact HB.out)) hb); clear BK349; clear HB; have BK349 := n0_; have HB := n1_; clear n0_ n1_; (try clear hb); (try clear hb2); (try clear hk); (try clear hi); have hcz12_0 : w11.cell? ⟨gb349, 0, none⟩ = some (.int .i64 a0_0) := (blk_cell BK349.out 0).trans rfl; have hcz12_1 : w11.cell? ⟨gb349, 1, none⟩ = some (.int .i64 a0_1) := (blk_cell BK349.out 1).trans rfl; have hcz12_2 : w11.cell? ⟨gb349, 2, none⟩ = some (.int .i64 a0_2) := (blk_cell BK349.out 2).trans rfl; have hcz12_3 : w11.cell? ⟨gb349, 3, none⟩ = some (.int .i64 a0_3) := (blk_cell BK349.out 3).trans rfl; have hcz12_4 : w11.cell? ⟨gb349, 4, none⟩ = some (.int .i64 a0_4) := (blk_cell BK349.out 4).trans rfl; have hcz12_5 : w11.cell? ⟨gb349, 5, none⟩ = some (.int .i64 a0_5) := (blk_cell BK349.out 5).trans rfl; have hcz12_6 : w11.cell? ⟨gb349, 6, none⟩ = some (.int .i64 a0_6) := (blk_cell BK349.out 6).trans rfl; have hcz12_7 : w11.cell? ⟨gb349, 7, none⟩ = some (.int .i64 a0_7) := (blk_cell BK349.out 7).trans rfl; have hcz12_8 : w11.cell? ⟨gb349, 8, none⟩ = some (.int .i64 a0_8) := (blk_cell BK349.out 8).trans rfl; have hcz12_9 : w11.cell? ⟨gb349, 9, none⟩ = some (.int .i64 a0_9) := (blk_cell BK349.out 9).trans rfl; have hcz12_10 : w11.cell? ⟨gb349, 10, none⟩ = some (.int .i64 a0_10) := (blk_cell BK349.out 10).trans rfl; have hcz12_11 : w11.cell? ⟨gb349, 11, none⟩ = some (.slice A0_11 l0_11.length c0_11) := (blk_cell BK349.out 11).trans rfl; have hcz12_12 : w11.cell? ⟨gb349, 12, none⟩ = some (.slice A0_12 l0_12.length c0_12) := (blk_cell BK349.out 12).trans rfl; have hfz12_0 := blk_frozen BK349.out 0; have hfz12_1 := blk_frozen BK349.out 1; have hfz12_2 := blk_frozen BK349.out 2; have hfz12_3 := blk_frozen BK349.out 3; have hfz12_4 := blk_frozen BK349.out 4; have hfz12_5 := blk_frozen BK349.out 5; have hfz12_6 := blk_frozen BK349.out 6; have hfz12_7 := blk_frozen BK349.out 7; have hfz12_8 := blk_frozen BK349.out 8; have hfz12_9 := blk_frozen BK349.out 9; have hfz12_10 := blk_frozen BK349.out 10; have hfz12_11 := blk_frozen BK349.out 11; have hfz12_12 := blk_frozen BK349.out 12) | ((with_reducible refine gate_callee (f := 45) rfl ?_); refine goesL_ (some 22) rfl rfl Try.func45 (by kernel_rfl) rfl #[.slice A0_12 l0_12.length c0_12] rfl (by (try simp only [List.map_toArray, List.map_cons, List.map_nil]); first | done | rfl | (simp only [List.length_drop, List.length_take]; rfl)) ?_; (with_reducible refine (opts_KindOf.calls k _ _ l0_12 t354 _ ?side1 ?side2 A4.out).mono ?_); (case side1 => repeat (first | exact (Kd.C_below HR0_12.out HB.out) | (with_reducible refine Kd.C_alloc ?_ _) | (with_reducible refine Kd.C_drewN ?_ _) | (with_reducible refine Kd.C_drew ?_))); (case side2 => exact HC0_12.out); rintro e w13 ⟨rfl, hb⟩; refine ⟨_, rfl, ?_⟩; have n0_ := Aside0.mk (blk_below (g := gb349) (o := .cells #[.int .i64 a0_0, .int .i64 a0_1, .int .i64 a0_2, .int .i64 a0_3, .int .i64 a0_4, .int .i64 a0_5, .int .i64 a0_6, .int .i64 a0_7, .int .i64 a0_8, .int .i64 a0_9, .int .i64 a0_10, .slice A0_11 l0_11.length c0_11, .slice A0_12 l0_12.length c0_12] 42 (0, 0)) (by (with_reducible repeat (first | refine blk_drewN ?_ _ | refine blk_drew ?_ | refine blk_alloc ?_ _)); exact BK349.out) hb); have n1_ := Aside0.mk (below_step (by repeat (first | (with_reducible first | exact HB.out | apply below_alloc | apply pw_below_drewN | apply below_drew1 | refine below_set ?_ GE349.out) | exact HB.out)) hb); clear BK349; clear HB; have BK349 := n0_; have HB := n1_; clear n0_ n1_; (try clear hb); (try clear hb2); (try clear hk); (try clear hi)))
    (try simp only [Act.put, List.setIfInBounds_toArray, List.set_cons_zero, List.set_cons_succ])
    go_cut [24] (fun v24 wc => ∃ (kq : Nat) (x24_5 : Bool), v24 = .bool x24_5 ∧ Aside0 (class_Of.j0 kq t351 t353 x24_5 a0_0 a0_1 a0_2 a0_3 a0_4 a0_5 a0_6 a0_7 a0_8 a0_9 a0_10 l0_11 l0_12 = some r) ∧ Aside0 (kq ≤ k) ∧ Aside0 (wc.heap[gb349]? = some (.cells #[.int .i64 a0_0, .int .i64 a0_1, .int .i64 a0_2, .int .i64 a0_3, .int .i64 a0_4, .int .i64 a0_5, .int .i64 a0_6, .int .i64 a0_7, .int .i64 a0_8, .int .i64 a0_9, .int .i64 a0_10, (.slice A0_11 l0_11.length c0_11), (.slice A0_12 l0_12.length c0_12)] 42 (0, 0))) ∧ Aside0 (Below w.heap.size w wc))
    case first =>
      have H := HC6.out
      clear HC6
      by_cases c14 : t351 = true
      · subst c14
        have H1 : (if t353 = true then (class_Of.j0 k true t353 (a0_7 == 0) a0_0 a0_1 a0_2 a0_3 a0_4 a0_5 a0_6 a0_7 a0_8 a0_9 a0_10 l0_11 l0_12) else (class_Of.j0 k true t353 false a0_0 a0_1 a0_2 a0_3 a0_4 a0_5 a0_6 a0_7 a0_8 a0_9 a0_10 l0_11 l0_12)) = some r := by rw [if_pos rfl] at H; exact H
        clear H
        have H := H1
        clear H1
        by_cases c15 : t353 = true
        · subst c15
          have H1 : (class_Of.j0 k true true (a0_7 == 0) a0_0 a0_1 a0_2 a0_3 a0_4 a0_5 a0_6 a0_7 a0_8 a0_9 a0_10 l0_11 l0_12) = some r := by rw [if_pos rfl] at H; exact H
          clear H
          have H := H1
          clear H1
          have H' := Aside0.mk H
          clear H
          have hcz16_0 : w13.cell? ⟨gb349, 0, none⟩ = some (.int .i64 a0_0) := (blk_cell BK349.out 0).trans rfl
          have hcz16_1 : w13.cell? ⟨gb349, 1, none⟩ = some (.int .i64 a0_1) := (blk_cell BK349.out 1).trans rfl
          have hcz16_2 : w13.cell? ⟨gb349, 2, none⟩ = some (.int .i64 a0_2) := (blk_cell BK349.out 2).trans rfl
          have hcz16_3 : w13.cell? ⟨gb349, 3, none⟩ = some (.int .i64 a0_3) := (blk_cell BK349.out 3).trans rfl
          have hcz16_4 : w13.cell? ⟨gb349, 4, none⟩ = some (.int .i64 a0_4) := (blk_cell BK349.out 4).trans rfl
          have hcz16_5 : w13.cell? ⟨gb349, 5, none⟩ = some (.int .i64 a0_5) := (blk_cell BK349.out 5).trans rfl
          have hcz16_6 : w13.cell? ⟨gb349, 6, none⟩ = some (.int .i64 a0_6) := (blk_cell BK349.out 6).trans rfl
          have hcz16_7 : w13.cell? ⟨gb349, 7, none⟩ = some (.int .i64 a0_7) := (blk_cell BK349.out 7).trans rfl
          have hcz16_8 : w13.cell? ⟨gb349, 8, none⟩ = some (.int .i64 a0_8) := (blk_cell BK349.out 8).trans rfl
          have hcz16_9 : w13.cell? ⟨gb349, 9, none⟩ = some (.int .i64 a0_9) := (blk_cell BK349.out 9).trans rfl
          have hcz16_10 : w13.cell? ⟨gb349, 10, none⟩ = some (.int .i64 a0_10) := (blk_cell BK349.out 10).trans rfl
          have hcz16_11 : w13.cell? ⟨gb349, 11, none⟩ = some (.slice A0_11 l0_11.length c0_11) := (blk_cell BK349.out 11).trans rfl
          have hcz16_12 : w13.cell? ⟨gb349, 12, none⟩ = some (.slice A0_12 l0_12.length c0_12) := (blk_cell BK349.out 12).trans rfl
          have hfz16_0 := blk_frozen BK349.out 0
          have hfz16_1 := blk_frozen BK349.out 1
          have hfz16_2 := blk_frozen BK349.out 2
          have hfz16_3 := blk_frozen BK349.out 3
          have hfz16_4 := blk_frozen BK349.out 4
          have hfz16_5 := blk_frozen BK349.out 5
          have hfz16_6 := blk_frozen BK349.out 6
          have hfz16_7 := blk_frozen BK349.out 7
          have hfz16_8 := blk_frozen BK349.out 8
          have hfz16_9 := blk_frozen BK349.out 9
          have hfz16_10 := blk_frozen BK349.out 10
          have hfz16_11 := blk_frozen BK349.out 11
          have hfz16_12 := blk_frozen BK349.out 12
          go_wp2
          go_meet
          case rel => exact ⟨_, ((a0_7 == 0)), (by first | rfl | (simp; done) | (simp [*]; done)), H', ⟨by first | omega | exact Nat.le_refl _⟩, ⟨by (with_reducible repeat (first | refine blk_drewN ?_ _ | refine blk_drew ?_ | refine blk_alloc ?_ _)); exact BK349.out⟩, ⟨by repeat (first | (with_reducible first | exact HB.out | apply below_alloc | apply pw_below_drewN | apply below_drew1 | refine below_set ?_ GE349.out) | exact HB.out)⟩⟩
        · replace c15 := Bool.eq_false_iff.mpr c15
          subst c15
          have H1 : (class_Of.j0 k true false false a0_0 a0_1 a0_2 a0_3 a0_4 a0_5 a0_6 a0_7 a0_8 a0_9 a0_10 l0_11 l0_12) = some r := by rw [if_neg (show ¬ (false = true) by decide)] at H; exact H
          clear H
          have H := H1
          clear H1
          have H' := Aside0.mk H
          clear H
          go_wp2
          go_meet
          case rel => exact ⟨_, (false), (by first | rfl | (simp; done) | (simp [*]; done)), H', ⟨by first | omega | exact Nat.le_refl _⟩, ⟨by (with_reducible repeat (first | refine blk_drewN ?_ _ | refine blk_drew ?_ | refine blk_alloc ?_ _)); exact BK349.out⟩, ⟨by repeat (first | (with_reducible first | exact HB.out | apply below_alloc | apply pw_below_drewN | apply below_drew1 | refine below_set ?_ GE349.out) | exact HB.out)⟩⟩
      · replace c14 := Bool.eq_false_iff.mpr c14
        subst c14
        have H1 : (class_Of.j0 k false t353 false a0_0 a0_1 a0_2 a0_3 a0_4 a0_5 a0_6 a0_7 a0_8 a0_9 a0_10 l0_11 l0_12) = some r := by rw [if_neg (show ¬ (false = true) by decide)] at H; exact H
        clear H
        have H := H1
        clear H1
        have H' := Aside0.mk H
        clear H
        go_wp2
        go_meet
        case rel => exact ⟨_, (false), (by first | rfl | (simp; done) | (simp [*]; done)), H', ⟨by first | omega | exact Nat.le_refl _⟩, ⟨by (with_reducible repeat (first | refine blk_drewN ?_ _ | refine blk_drew ?_ | refine blk_alloc ?_ _)); exact BK349.out⟩, ⟨by repeat (first | (with_reducible first | exact HB.out | apply below_alloc | apply pw_below_drewN | apply below_drew1 | refine below_set ?_ GE349.out) | exact HB.out)⟩⟩
    case rest =>
      clear HC6
      try clear c1
      try clear p2
      try clear c3
      try clear c4
      try clear c5
      try clear c5b0
      try clear c5b1
      try clear c14
      try clear c15
      try clear hcz10_0
      try clear hcz10_1
      try clear hcz10_10
      try clear hcz10_11
      try clear hcz10_12
      try clear hcz10_2
      try clear hcz10_3
      try clear hcz10_4
      try clear hcz10_5
      try clear hcz10_6
      try clear hcz10_7
      try clear hcz10_8
      try clear hcz10_9
      try clear hcz12_0
      try clear hcz12_1
      try clear hcz12_10
      try clear hcz12_11
      try clear hcz12_12
      try clear hcz12_2
      try clear hcz12_3
      try clear hcz12_4
      try clear hcz12_5
      try clear hcz12_6
      try clear hcz12_7
      try clear hcz12_8
      try clear hcz12_9
      try clear hcz16_0
      try clear hcz16_1
      try clear hcz16_10
      try clear hcz16_11
      try clear hcz16_12
      try clear hcz16_2
      try clear hcz16_3
      try clear hcz16_4
      try clear hcz16_5
      try clear hcz16_6
      try clear hcz16_7
      try clear hcz16_8
      try clear hcz16_9
      try clear hcz8_0
      try clear hcz8_1
      try clear hcz8_10
      try clear hcz8_11
      try clear hcz8_12
      try clear hcz8_2
      try clear hcz8_3
      try clear hcz8_4
      try clear hcz8_5
      try clear hcz8_6
      try clear hcz8_7
      try clear hcz8_8
      try clear hcz8_9
      try clear hfz10_0
      try clear hfz10_1
      try clear hfz10_10
      try clear hfz10_11
      try clear hfz10_12
      try clear hfz10_2
      try clear hfz10_3
      try clear hfz10_4
      try clear hfz10_5
      try clear hfz10_6
      try clear hfz10_7
      try clear hfz10_8
      try clear hfz10_9
      try clear hfz12_0
      try clear hfz12_1
      try clear hfz12_10
      try clear hfz12_11
      try clear hfz12_12
      try clear hfz12_2
      try clear hfz12_3
      try clear hfz12_4
      try clear hfz12_5
      try clear hfz12_6
      try clear hfz12_7
      try clear hfz12_8
      try clear hfz12_9
      try clear hfz16_0
      try clear hfz16_1
      try clear hfz16_10
      try clear hfz16_11
      try clear hfz16_12
      try clear hfz16_2
      try clear hfz16_3
      try clear hfz16_4
      try clear hfz16_5
      try clear hfz16_6
      try clear hfz16_7
      try clear hfz16_8
      try clear hfz16_9
      try clear hfz8_0
      try clear hfz8_1
      try clear hfz8_10
      try clear hfz8_11
      try clear hfz8_12
      try clear hfz8_2
      try clear hfz8_3
      try clear hfz8_4
      try clear hfz8_5
      try clear hfz8_6
      try clear hfz8_7
      try clear hfz8_8
      try clear hfz8_9
      obtain ⟨kq, x24_5, rfl, HA, HJ5, BK349, HB⟩ := hcut
      cases kq with
      | zero => exact absurd HA.out (by simp [class_Of.j0])
      | succ kj5 =>
        have H := HA.out
        clear HA
        simp only [class_Of.j0] at H
        by_cases c17 : x24_5 = true
        · subst c17
          have H1 : (some 1) = some r := by rw [if_pos rfl] at H; exact H
          clear H
          have H := H1
          clear H1
          obtain rfl := Option.some.inj H
          go_wp2
          go_ret
          exact ⟨by first | rfl | (simp [errW_none, errW_some] <;> rfl) | (simp [*, errW_none, errW_some] <;> rfl), by repeat (first | (with_reducible first | exact HB.out | apply below_alloc | apply pw_below_drewN | apply below_drew1 | refine below_set ?_ GE349.out) | exact HB.out)⟩
        · replace c17 := Bool.eq_false_iff.mpr c17
          subst c17
          have H1 : (if t351 = true then (class_Of.j1 kj5 t351 t353 false a0_0 a0_1 a0_2 a0_3 a0_4 a0_5 a0_6 a0_7 a0_8 a0_9 a0_10 l0_11 l0_12) else (if t353 = true then (class_Of.j1 kj5 t351 t353 (a0_7 == 0) a0_0 a0_1 a0_2 a0_3 a0_4 a0_5 a0_6 a0_7 a0_8 a0_9 a0_10 l0_11 l0_12) else (class_Of.j1 kj5 t351 t353 false a0_0 a0_1 a0_2 a0_3 a0_4 a0_5 a0_6 a0_7 a0_8 a0_9 a0_10 l0_11 l0_12))) = some r := by rw [if_neg (show ¬ (false = true) by decide)] at H; exact H
          clear H
          have H := H1
          clear H1
          have HC18 := Aside0.mk H
          clear H
          go_upto_region 7 with (fail)
          go_cut [34] (fun v34 wc => ∃ (kq : Nat) (x34_17 : Bool), v34 = .bool x34_17 ∧ Aside0 (class_Of.j1 kq t351 t353 x34_17 a0_0 a0_1 a0_2 a0_3 a0_4 a0_5 a0_6 a0_7 a0_8 a0_9 a0_10 l0_11 l0_12 = some r) ∧ Aside0 (kq ≤ kj5) ∧ Aside0 (wc.heap[gb349]? = some (.cells #[.int .i64 a0_0, .int .i64 a0_1, .int .i64 a0_2, .int .i64 a0_3, .int .i64 a0_4, .int .i64 a0_5, .int .i64 a0_6, .int .i64 a0_7, .int .i64 a0_8, .int .i64 a0_9, .int .i64 a0_10, (.slice A0_11 l0_11.length c0_11), (.slice A0_12 l0_12.length c0_12)] 42 (0, 0))) ∧ Aside0 (Below w.heap.size w wc))
          case first =>
            have H := HC18.out
            clear HC18
            by_cases c19 : t351 = true
            · subst c19
              have H1 : (class_Of.j1 kj5 true t353 false a0_0 a0_1 a0_2 a0_3 a0_4 a0_5 a0_6 a0_7 a0_8 a0_9 a0_10 l0_11 l0_12) = some r := by rw [if_pos rfl] at H; exact H
              clear H
              have H := H1
              clear H1
              have H' := Aside0.mk H
              clear H
              go_wp2
              go_meet
              case rel => exact ⟨_, (false), (by first | rfl | (simp; done) | (simp [*]; done)), H', ⟨by have := HJ5.out; first | omega | exact Nat.le_refl _⟩, ⟨by (with_reducible repeat (first | refine blk_drewN ?_ _ | refine blk_drew ?_ | refine blk_alloc ?_ _)); exact BK349.out⟩, ⟨by repeat (first | (with_reducible first | exact HB.out | apply below_alloc | apply pw_below_drewN | apply below_drew1 | refine below_set ?_ GE349.out) | exact HB.out)⟩⟩
            · replace c19 := Bool.eq_false_iff.mpr c19
              subst c19
              have H1 : (if t353 = true then (class_Of.j1 kj5 false t353 (a0_7 == 0) a0_0 a0_1 a0_2 a0_3 a0_4 a0_5 a0_6 a0_7 a0_8 a0_9 a0_10 l0_11 l0_12) else (class_Of.j1 kj5 false t353 false a0_0 a0_1 a0_2 a0_3 a0_4 a0_5 a0_6 a0_7 a0_8 a0_9 a0_10 l0_11 l0_12)) = some r := by rw [if_neg (show ¬ (false = true) by decide)] at H; exact H
              clear H
              have H := H1
              clear H1
              by_cases c20 : t353 = true
              · subst c20
                have H1 : (class_Of.j1 kj5 false true (a0_7 == 0) a0_0 a0_1 a0_2 a0_3 a0_4 a0_5 a0_6 a0_7 a0_8 a0_9 a0_10 l0_11 l0_12) = some r := by rw [if_pos rfl] at H; exact H
                clear H
                have H := H1
                clear H1
                have H' := Aside0.mk H
                clear H
                have hcz21_0 : wc.cell? ⟨gb349, 0, none⟩ = some (.int .i64 a0_0) := (blk_cell BK349.out 0).trans rfl
                have hcz21_1 : wc.cell? ⟨gb349, 1, none⟩ = some (.int .i64 a0_1) := (blk_cell BK349.out 1).trans rfl
                have hcz21_2 : wc.cell? ⟨gb349, 2, none⟩ = some (.int .i64 a0_2) := (blk_cell BK349.out 2).trans rfl
                have hcz21_3 : wc.cell? ⟨gb349, 3, none⟩ = some (.int .i64 a0_3) := (blk_cell BK349.out 3).trans rfl
                have hcz21_4 : wc.cell? ⟨gb349, 4, none⟩ = some (.int .i64 a0_4) := (blk_cell BK349.out 4).trans rfl
                have hcz21_5 : wc.cell? ⟨gb349, 5, none⟩ = some (.int .i64 a0_5) := (blk_cell BK349.out 5).trans rfl
                have hcz21_6 : wc.cell? ⟨gb349, 6, none⟩ = some (.int .i64 a0_6) := (blk_cell BK349.out 6).trans rfl
                have hcz21_7 : wc.cell? ⟨gb349, 7, none⟩ = some (.int .i64 a0_7) := (blk_cell BK349.out 7).trans rfl
                have hcz21_8 : wc.cell? ⟨gb349, 8, none⟩ = some (.int .i64 a0_8) := (blk_cell BK349.out 8).trans rfl
                have hcz21_9 : wc.cell? ⟨gb349, 9, none⟩ = some (.int .i64 a0_9) := (blk_cell BK349.out 9).trans rfl
                have hcz21_10 : wc.cell? ⟨gb349, 10, none⟩ = some (.int .i64 a0_10) := (blk_cell BK349.out 10).trans rfl
                have hcz21_11 : wc.cell? ⟨gb349, 11, none⟩ = some (.slice A0_11 l0_11.length c0_11) := (blk_cell BK349.out 11).trans rfl
                have hcz21_12 : wc.cell? ⟨gb349, 12, none⟩ = some (.slice A0_12 l0_12.length c0_12) := (blk_cell BK349.out 12).trans rfl
                have hfz21_0 := blk_frozen BK349.out 0
                have hfz21_1 := blk_frozen BK349.out 1
                have hfz21_2 := blk_frozen BK349.out 2
                have hfz21_3 := blk_frozen BK349.out 3
                have hfz21_4 := blk_frozen BK349.out 4
                have hfz21_5 := blk_frozen BK349.out 5
                have hfz21_6 := blk_frozen BK349.out 6
                have hfz21_7 := blk_frozen BK349.out 7
                have hfz21_8 := blk_frozen BK349.out 8
                have hfz21_9 := blk_frozen BK349.out 9
                have hfz21_10 := blk_frozen BK349.out 10
                have hfz21_11 := blk_frozen BK349.out 11
                have hfz21_12 := blk_frozen BK349.out 12
                go_wp2
                go_meet
                case rel => exact ⟨_, ((a0_7 == 0)), (by first | rfl | (simp; done) | (simp [*]; done)), H', ⟨by have := HJ5.out; first | omega | exact Nat.le_refl _⟩, ⟨by (with_reducible repeat (first | refine blk_drewN ?_ _ | refine blk_drew ?_ | refine blk_alloc ?_ _)); exact BK349.out⟩, ⟨by repeat (first | (with_reducible first | exact HB.out | apply below_alloc | apply pw_below_drewN | apply below_drew1 | refine below_set ?_ GE349.out) | exact HB.out)⟩⟩
              · replace c20 := Bool.eq_false_iff.mpr c20
                subst c20
                have H1 : (class_Of.j1 kj5 false false false a0_0 a0_1 a0_2 a0_3 a0_4 a0_5 a0_6 a0_7 a0_8 a0_9 a0_10 l0_11 l0_12) = some r := by rw [if_neg (show ¬ (false = true) by decide)] at H; exact H
                clear H
                have H := H1
                clear H1
                have H' := Aside0.mk H
                clear H
                go_wp2
                go_meet
                case rel => exact ⟨_, (false), (by first | rfl | (simp; done) | (simp [*]; done)), H', ⟨by have := HJ5.out; first | omega | exact Nat.le_refl _⟩, ⟨by (with_reducible repeat (first | refine blk_drewN ?_ _ | refine blk_drew ?_ | refine blk_alloc ?_ _)); exact BK349.out⟩, ⟨by repeat (first | (with_reducible first | exact HB.out | apply below_alloc | apply pw_below_drewN | apply below_drew1 | refine below_set ?_ GE349.out) | exact HB.out)⟩⟩
          case rest =>
            clear HC18
            try clear c1
            try clear c2
            try clear p2
            try clear c3
            try clear c4
            try clear c5
            try clear c5b0
            try clear c5b1
            try clear c14
            try clear c15
            try clear c17
            try clear c19
            try clear c20
            try clear hcz10_0
            try clear hcz10_1
            try clear hcz10_10
            try clear hcz10_11
            try clear hcz10_12
            try clear hcz10_2
            try clear hcz10_3
            try clear hcz10_4
            try clear hcz10_5
            try clear hcz10_6
            try clear hcz10_7
            try clear hcz10_8
            try clear hcz10_9
            try clear hcz12_0
            try clear hcz12_1
            try clear hcz12_10
            try clear hcz12_11
            try clear hcz12_12
            try clear hcz12_2
            try clear hcz12_3
            try clear hcz12_4
            try clear hcz12_5
            try clear hcz12_6
            try clear hcz12_7
            try clear hcz12_8
            try clear hcz12_9
            try clear hcz16_0
            try clear hcz16_1
            try clear hcz16_10
            try clear hcz16_11
            try clear hcz16_12
            try clear hcz16_2
            try clear hcz16_3
            try clear hcz16_4
            try clear hcz16_5
            try clear hcz16_6
            try clear hcz16_7
            try clear hcz16_8
            try clear hcz16_9
            try clear hcz21_0
            try clear hcz21_1
            try clear hcz21_10
            try clear hcz21_11
            try clear hcz21_12
            try clear hcz21_2
            try clear hcz21_3
            try clear hcz21_4
            try clear hcz21_5
            try clear hcz21_6
            try clear hcz21_7
            try clear hcz21_8
            try clear hcz21_9
            try clear hcz8_0
            try clear hcz8_1
            try clear hcz8_10
            try clear hcz8_11
            try clear hcz8_12
            try clear hcz8_2
            try clear hcz8_3
            try clear hcz8_4
            try clear hcz8_5
            try clear hcz8_6
            try clear hcz8_7
            try clear hcz8_8
            try clear hcz8_9
            try clear hfz10_0
            try clear hfz10_1
            try clear hfz10_10
            try clear hfz10_11
            try clear hfz10_12
            try clear hfz10_2
            try clear hfz10_3
            try clear hfz10_4
            try clear hfz10_5
            try clear hfz10_6
            try clear hfz10_7
            try clear hfz10_8
            try clear hfz10_9
            try clear hfz12_0
            try clear hfz12_1
            try clear hfz12_10
            try clear hfz12_11
            try clear hfz12_12
            try clear hfz12_2
            try clear hfz12_3
            try clear hfz12_4
            try clear hfz12_5
            try clear hfz12_6
            try clear hfz12_7
            try clear hfz12_8
            try clear hfz12_9
            try clear hfz16_0
            try clear hfz16_1
            try clear hfz16_10
            try clear hfz16_11
            try clear hfz16_12
            try clear hfz16_2
            try clear hfz16_3
            try clear hfz16_4
            try clear hfz16_5
            try clear hfz16_6
            try clear hfz16_7
            try clear hfz16_8
            try clear hfz16_9
            try clear hfz21_0
            try clear hfz21_1
            try clear hfz21_10
            try clear hfz21_11
            try clear hfz21_12
            try clear hfz21_2
            try clear hfz21_3
            try clear hfz21_4
            try clear hfz21_5
            try clear hfz21_6
            try clear hfz21_7
            try clear hfz21_8
            try clear hfz21_9
            try clear hfz8_0
            try clear hfz8_1
            try clear hfz8_10
            try clear hfz8_11
            try clear hfz8_12
            try clear hfz8_2
            try clear hfz8_3
            try clear hfz8_4
            try clear hfz8_5
            try clear hfz8_6
            try clear hfz8_7
            try clear hfz8_8
            try clear hfz8_9
            try clear p2
            obtain ⟨kq, x34_17, rfl, HA, HJ17, BK349, HB⟩ := hcut
            cases kq with
            | zero => exact absurd HA.out (by simp [class_Of.j1])
            | succ kj17 =>
              have H := HA.out
              clear HA
              simp only [class_Of.j1] at H
              by_cases c22 : x34_17 = true
              · subst c22
                have H1 : (some 2) = some r := by rw [if_pos rfl] at H; exact H
                clear H
                have H := H1
                clear H1
                obtain rfl := Option.some.inj H
                go_wp2
                go_ret
                exact ⟨by first | rfl | (simp [errW_none, errW_some] <;> rfl) | (simp [*, errW_none, errW_some] <;> rfl), by repeat (first | (with_reducible first | exact HB.out | apply below_alloc | apply pw_below_drewN | apply below_drew1 | refine below_set ?_ GE349.out) | exact HB.out)⟩
              · replace c22 := Bool.eq_false_iff.mpr c22
                subst c22
                have H1 : (if t351 = true then (some 0) else (if t353 = true then (some 0) else (if a0_7 = 0 then (some 0) else (some 3)))) = some r := by rw [if_neg (show ¬ (false = true) by decide)] at H; exact H
                clear H
                have H := H1
                clear H1
                by_cases c23 : t351 = true
                · subst c23
                  have H1 : (some 0) = some r := by rw [if_pos rfl] at H; exact H
                  clear H
                  have H := H1
                  clear H1
                  obtain rfl := Option.some.inj H
                  go_wp2
                  go_ret
                  exact ⟨by first | rfl | (simp [errW_none, errW_some] <;> rfl) | (simp [*, errW_none, errW_some] <;> rfl), by repeat (first | (with_reducible first | exact HB.out | apply below_alloc | apply pw_below_drewN | apply below_drew1 | refine below_set ?_ GE349.out) | exact HB.out)⟩
                · replace c23 := Bool.eq_false_iff.mpr c23
                  subst c23
                  have H1 : (if t353 = true then (some 0) else (if a0_7 = 0 then (some 0) else (some 3))) = some r := by rw [if_neg (show ¬ (false = true) by decide)] at H; exact H
                  clear H
                  have H := H1
                  clear H1
                  by_cases c24 : t353 = true
                  · subst c24
                    have H1 : (some 0) = some r := by rw [if_pos rfl] at H; exact H
                    clear H
                    have H := H1
                    clear H1
                    obtain rfl := Option.some.inj H
                    go_wp2
                    go_ret
                    exact ⟨by first | rfl | (simp [errW_none, errW_some] <;> rfl) | (simp [*, errW_none, errW_some] <;> rfl), by repeat (first | (with_reducible first | exact HB.out | apply below_alloc | apply pw_below_drewN | apply below_drew1 | refine below_set ?_ GE349.out) | exact HB.out)⟩
                  · replace c24 := Bool.eq_false_iff.mpr c24
                    subst c24
                    have H1 : (if a0_7 = 0 then (some 0) else (some 3)) = some r := by rw [if_neg (show ¬ (false = true) by decide)] at H; exact H
                    clear H
                    have H := H1
                    clear H1
                    by_cases c25 : a0_7 = 0
                    · rw [if_pos c25] at H
                      have c25b0 : (a0_7 == 0) = true := beq_iff_eq.mpr c25
                      have c25b1 : (a0_7 != 0) = false := bne_eq_false_iff_eq.mpr c25
                      clear c25
                      obtain rfl := Option.some.inj H
                      have hcz26_0 : wc.cell? ⟨gb349, 0, none⟩ = some (.int .i64 a0_0) := (blk_cell BK349.out 0).trans rfl
                      have hcz26_1 : wc.cell? ⟨gb349, 1, none⟩ = some (.int .i64 a0_1) := (blk_cell BK349.out 1).trans rfl
                      have hcz26_2 : wc.cell? ⟨gb349, 2, none⟩ = some (.int .i64 a0_2) := (blk_cell BK349.out 2).trans rfl
                      have hcz26_3 : wc.cell? ⟨gb349, 3, none⟩ = some (.int .i64 a0_3) := (blk_cell BK349.out 3).trans rfl
                      have hcz26_4 : wc.cell? ⟨gb349, 4, none⟩ = some (.int .i64 a0_4) := (blk_cell BK349.out 4).trans rfl
                      have hcz26_5 : wc.cell? ⟨gb349, 5, none⟩ = some (.int .i64 a0_5) := (blk_cell BK349.out 5).trans rfl
                      have hcz26_6 : wc.cell? ⟨gb349, 6, none⟩ = some (.int .i64 a0_6) := (blk_cell BK349.out 6).trans rfl
                      have hcz26_7 : wc.cell? ⟨gb349, 7, none⟩ = some (.int .i64 a0_7) := (blk_cell BK349.out 7).trans rfl
                      have hcz26_8 : wc.cell? ⟨gb349, 8, none⟩ = some (.int .i64 a0_8) := (blk_cell BK349.out 8).trans rfl
                      have hcz26_9 : wc.cell? ⟨gb349, 9, none⟩ = some (.int .i64 a0_9) := (blk_cell BK349.out 9).trans rfl
                      have hcz26_10 : wc.cell? ⟨gb349, 10, none⟩ = some (.int .i64 a0_10) := (blk_cell BK349.out 10).trans rfl
                      have hcz26_11 : wc.cell? ⟨gb349, 11, none⟩ = some (.slice A0_11 l0_11.length c0_11) := (blk_cell BK349.out 11).trans rfl
                      have hcz26_12 : wc.cell? ⟨gb349, 12, none⟩ = some (.slice A0_12 l0_12.length c0_12) := (blk_cell BK349.out 12).trans rfl
                      have hfz26_0 := blk_frozen BK349.out 0
                      have hfz26_1 := blk_frozen BK349.out 1
                      have hfz26_2 := blk_frozen BK349.out 2
                      have hfz26_3 := blk_frozen BK349.out 3
                      have hfz26_4 := blk_frozen BK349.out 4
                      have hfz26_5 := blk_frozen BK349.out 5
                      have hfz26_6 := blk_frozen BK349.out 6
                      have hfz26_7 := blk_frozen BK349.out 7
                      have hfz26_8 := blk_frozen BK349.out 8
                      have hfz26_9 := blk_frozen BK349.out 9
                      have hfz26_10 := blk_frozen BK349.out 10
                      have hfz26_11 := blk_frozen BK349.out 11
                      have hfz26_12 := blk_frozen BK349.out 12
                      go_wp2
                      go_ret
                      exact ⟨by first | rfl | (simp [errW_none, errW_some] <;> rfl) | (simp [*, errW_none, errW_some] <;> rfl), by repeat (first | (with_reducible first | exact HB.out | apply below_alloc | apply pw_below_drewN | apply below_drew1 | refine below_set ?_ GE349.out) | exact HB.out)⟩
                    · rw [if_neg c25] at H
                      have c25b0 : (a0_7 == 0) = false := beq_eq_false_iff_ne.mpr c25
                      have c25b1 : (a0_7 != 0) = true := bne_iff_ne.mpr c25
                      obtain rfl := Option.some.inj H
                      have hcz27_0 : wc.cell? ⟨gb349, 0, none⟩ = some (.int .i64 a0_0) := (blk_cell BK349.out 0).trans rfl
                      have hcz27_1 : wc.cell? ⟨gb349, 1, none⟩ = some (.int .i64 a0_1) := (blk_cell BK349.out 1).trans rfl
                      have hcz27_2 : wc.cell? ⟨gb349, 2, none⟩ = some (.int .i64 a0_2) := (blk_cell BK349.out 2).trans rfl
                      have hcz27_3 : wc.cell? ⟨gb349, 3, none⟩ = some (.int .i64 a0_3) := (blk_cell BK349.out 3).trans rfl
                      have hcz27_4 : wc.cell? ⟨gb349, 4, none⟩ = some (.int .i64 a0_4) := (blk_cell BK349.out 4).trans rfl
                      have hcz27_5 : wc.cell? ⟨gb349, 5, none⟩ = some (.int .i64 a0_5) := (blk_cell BK349.out 5).trans rfl
                      have hcz27_6 : wc.cell? ⟨gb349, 6, none⟩ = some (.int .i64 a0_6) := (blk_cell BK349.out 6).trans rfl
                      have hcz27_7 : wc.cell? ⟨gb349, 7, none⟩ = some (.int .i64 a0_7) := (blk_cell BK349.out 7).trans rfl
                      have hcz27_8 : wc.cell? ⟨gb349, 8, none⟩ = some (.int .i64 a0_8) := (blk_cell BK349.out 8).trans rfl
                      have hcz27_9 : wc.cell? ⟨gb349, 9, none⟩ = some (.int .i64 a0_9) := (blk_cell BK349.out 9).trans rfl
                      have hcz27_10 : wc.cell? ⟨gb349, 10, none⟩ = some (.int .i64 a0_10) := (blk_cell BK349.out 10).trans rfl
                      have hcz27_11 : wc.cell? ⟨gb349, 11, none⟩ = some (.slice A0_11 l0_11.length c0_11) := (blk_cell BK349.out 11).trans rfl
                      have hcz27_12 : wc.cell? ⟨gb349, 12, none⟩ = some (.slice A0_12 l0_12.length c0_12) := (blk_cell BK349.out 12).trans rfl
                      have hfz27_0 := blk_frozen BK349.out 0
                      have hfz27_1 := blk_frozen BK349.out 1
                      have hfz27_2 := blk_frozen BK349.out 2
                      have hfz27_3 := blk_frozen BK349.out 3
                      have hfz27_4 := blk_frozen BK349.out 4
                      have hfz27_5 := blk_frozen BK349.out 5
                      have hfz27_6 := blk_frozen BK349.out 6
                      have hfz27_7 := blk_frozen BK349.out 7
                      have hfz27_8 := blk_frozen BK349.out 8
                      have hfz27_9 := blk_frozen BK349.out 9
                      have hfz27_10 := blk_frozen BK349.out 10
                      have hfz27_11 := blk_frozen BK349.out 11
                      have hfz27_12 := blk_frozen BK349.out 12
                      go_wp2
                      go_ret
                      exact ⟨by first | rfl | (simp [errW_none, errW_some] <;> rfl) | (simp [*, errW_none, errW_some] <;> rfl), by repeat (first | (with_reducible first | exact HB.out | apply below_alloc | apply pw_below_drewN | apply below_drew1 | refine below_set ?_ GE349.out) | exact HB.out)⟩
  · rw [if_neg c5] at H
    have c5b0 : (t354 == 3) = false := beq_eq_false_iff_ne.mpr c5
    have c5b1 : (t354 != 3) = true := bne_iff_ne.mpr c5
    obtain rfl := Option.some.inj H
    go_enter Try.func33, Try.ntmps33
    go_wp2_with (first | ((with_reducible refine gate_dst (N := 1) rfl ?_); refine box_event ?hg (N := 1) ?hd (cs := #[.int .i64 a0_0, .int .i64 a0_1, .int .i64 a0_2, .int .i64 a0_3, .int .i64 a0_4, .int .i64 a0_5, .int .i64 a0_6, .int .i64 a0_7, .int .i64 a0_8, .int .i64 a0_9, .int .i64 a0_10, .slice A0_11 l0_11.length c0_11, .slice A0_12 l0_12.length c0_12]) (t := 42) ?hr ?_; (case hd => rfl); (case hg => rfl); (case hr => first | (go_simp; done) | (go_simp; rfl)); intro gb349 hg w28 hbox hb; have n0_ := Aside0.mk (below_step (by repeat (first | (with_reducible first | exact HB.out | apply below_alloc | apply pw_below_drewN | apply below_drew1) | exact HB.out)) hb); have n1_ := Aside0.mk (hbox); have n2_ := Aside0.mk ((by rw [hg]; exact (below_size (by repeat (first | (with_reducible first | exact HB.out | apply below_alloc | apply pw_below_drewN | apply below_drew1) | exact HB.out))) : w.heap.size ≤ gb349)); have n3_ := Aside0.mk ((by rw [hg]; exact (below_size (by repeat (first | (with_reducible first | exact HB.out | apply below_alloc | apply pw_below_drewN | apply below_drew1) | exact HB.out))) : w.heap.size ≤ gb349)); clear HB; have HB := n0_; have BK349 := n1_; have GW349 := n2_; have GE349 := n3_; clear n0_ n1_ n2_ n3_; clear hb hbox hg; have hcz29_0 : w28.cell? ⟨gb349, 0, none⟩ = some (.int .i64 a0_0) := (blk_cell BK349.out 0).trans rfl; have hcz29_1 : w28.cell? ⟨gb349, 1, none⟩ = some (.int .i64 a0_1) := (blk_cell BK349.out 1).trans rfl; have hcz29_2 : w28.cell? ⟨gb349, 2, none⟩ = some (.int .i64 a0_2) := (blk_cell BK349.out 2).trans rfl; have hcz29_3 : w28.cell? ⟨gb349, 3, none⟩ = some (.int .i64 a0_3) := (blk_cell BK349.out 3).trans rfl; have hcz29_4 : w28.cell? ⟨gb349, 4, none⟩ = some (.int .i64 a0_4) := (blk_cell BK349.out 4).trans rfl; have hcz29_5 : w28.cell? ⟨gb349, 5, none⟩ = some (.int .i64 a0_5) := (blk_cell BK349.out 5).trans rfl; have hcz29_6 : w28.cell? ⟨gb349, 6, none⟩ = some (.int .i64 a0_6) := (blk_cell BK349.out 6).trans rfl; have hcz29_7 : w28.cell? ⟨gb349, 7, none⟩ = some (.int .i64 a0_7) := (blk_cell BK349.out 7).trans rfl; have hcz29_8 : w28.cell? ⟨gb349, 8, none⟩ = some (.int .i64 a0_8) := (blk_cell BK349.out 8).trans rfl; have hcz29_9 : w28.cell? ⟨gb349, 9, none⟩ = some (.int .i64 a0_9) := (blk_cell BK349.out 9).trans rfl; have hcz29_10 : w28.cell? ⟨gb349, 10, none⟩ = some (.int .i64 a0_10) := (blk_cell BK349.out 10).trans rfl; have hcz29_11 : w28.cell? ⟨gb349, 11, none⟩ = some (.slice A0_11 l0_11.length c0_11) := (blk_cell BK349.out 11).trans rfl; have hcz29_12 : w28.cell? ⟨gb349, 12, none⟩ = some (.slice A0_12 l0_12.length c0_12) := (blk_cell BK349.out 12).trans rfl; have hfz29_0 := blk_frozen BK349.out 0; have hfz29_1 := blk_frozen BK349.out 1; have hfz29_2 := blk_frozen BK349.out 2; have hfz29_3 := blk_frozen BK349.out 3; have hfz29_4 := blk_frozen BK349.out 4; have hfz29_5 := blk_frozen BK349.out 5; have hfz29_6 := blk_frozen BK349.out 6; have hfz29_7 := blk_frozen BK349.out 7; have hfz29_8 := blk_frozen BK349.out 8; have hfz29_9 := blk_frozen BK349.out 9; have hfz29_10 := blk_frozen BK349.out 10; have hfz29_11 := blk_frozen BK349.out 11; have hfz29_12 := blk_frozen BK349.out 12) | ((with_reducible refine gate_callee (f := 44) rfl ?_); refine goesL_ (some 10) rfl rfl Try.func44 (by kernel_rfl) rfl #[.slice A0_12 l0_12.length c0_12, .int .i64 54] rfl (by (try simp only [List.map_toArray, List.map_cons, List.map_nil]); first | done | rfl | (simp only [List.length_drop, List.length_take]; rfl)) ?_; (with_reducible refine (opts_Number.calls k _ _ l0_12 54 t350 t351 _ ?side1 ?side2 A2.out).mono ?_); (case side1 => repeat (first | exact (Kd.C_below HR0_12.out HB.out) | (with_reducible refine Kd.C_alloc ?_ _) | (with_reducible refine Kd.C_drewN ?_ _) | (with_reducible refine Kd.C_drew ?_))); (case side2 => exact HC0_12.out); rintro e w30 ⟨rfl, hb⟩; refine ⟨_, rfl, ?_⟩; have n0_ := Aside0.mk (blk_below (g := gb349) (o := .cells #[.int .i64 a0_0, .int .i64 a0_1, .int .i64 a0_2, .int .i64 a0_3, .int .i64 a0_4, .int .i64 a0_5, .int .i64 a0_6, .int .i64 a0_7, .int .i64 a0_8, .int .i64 a0_9, .int .i64 a0_10, .slice A0_11 l0_11.length c0_11, .slice A0_12 l0_12.length c0_12] 42 (0, 0)) (by (with_reducible repeat (first | refine blk_drewN ?_ _ | refine blk_drew ?_ | refine blk_alloc ?_ _)); exact BK349.out) hb); have n1_ := Aside0.mk (below_step (by repeat (first | (with_reducible first | exact HB.out | apply below_alloc | apply pw_below_drewN | apply below_drew1 | refine below_set ?_ GE349.out) | exact HB.out)) hb); clear BK349; clear HB; have BK349 := n0_; have HB := n1_; clear n0_ n1_; (try clear hb); (try clear hb2); (try clear hk); (try clear hi); have hcz31_0 : w30.cell? ⟨gb349, 0, none⟩ = some (.int .i64 a0_0) := (blk_cell BK349.out 0).trans rfl; have hcz31_1 : w30.cell? ⟨gb349, 1, none⟩ = some (.int .i64 a0_1) := (blk_cell BK349.out 1).trans rfl; have hcz31_2 : w30.cell? ⟨gb349, 2, none⟩ = some (.int .i64 a0_2) := (blk_cell BK349.out 2).trans rfl; have hcz31_3 : w30.cell? ⟨gb349, 3, none⟩ = some (.int .i64 a0_3) := (blk_cell BK349.out 3).trans rfl; have hcz31_4 : w30.cell? ⟨gb349, 4, none⟩ = some (.int .i64 a0_4) := (blk_cell BK349.out 4).trans rfl; have hcz31_5 : w30.cell? ⟨gb349, 5, none⟩ = some (.int .i64 a0_5) := (blk_cell BK349.out 5).trans rfl; have hcz31_6 : w30.cell? ⟨gb349, 6, none⟩ = some (.int .i64 a0_6) := (blk_cell BK349.out 6).trans rfl; have hcz31_7 : w30.cell? ⟨gb349, 7, none⟩ = some (.int .i64 a0_7) := (blk_cell BK349.out 7).trans rfl; have hcz31_8 : w30.cell? ⟨gb349, 8, none⟩ = some (.int .i64 a0_8) := (blk_cell BK349.out 8).trans rfl; have hcz31_9 : w30.cell? ⟨gb349, 9, none⟩ = some (.int .i64 a0_9) := (blk_cell BK349.out 9).trans rfl; have hcz31_10 : w30.cell? ⟨gb349, 10, none⟩ = some (.int .i64 a0_10) := (blk_cell BK349.out 10).trans rfl; have hcz31_11 : w30.cell? ⟨gb349, 11, none⟩ = some (.slice A0_11 l0_11.length c0_11) := (blk_cell BK349.out 11).trans rfl; have hcz31_12 : w30.cell? ⟨gb349, 12, none⟩ = some (.slice A0_12 l0_12.length c0_12) := (blk_cell BK349.out 12).trans rfl; have hfz31_0 := blk_frozen BK349.out 0; have hfz31_1 := blk_frozen BK349.out 1; have hfz31_2 := blk_frozen BK349.out 2; have hfz31_3 := blk_frozen BK349.out 3; have hfz31_4 := blk_frozen BK349.out 4; have hfz31_5 := blk_frozen BK349.out 5; have hfz31_6 := blk_frozen BK349.out 6; have hfz31_7 := blk_frozen BK349.out 7; have hfz31_8 := blk_frozen BK349.out 8; have hfz31_9 := blk_frozen BK349.out 9; have hfz31_10 := blk_frozen BK349.out 10; have hfz31_11 := blk_frozen BK349.out 11; have hfz31_12 := blk_frozen BK349.out 12) | ((with_reducible refine gate_callee (f := 44) rfl ?_); refine goesL_ (some 16) rfl rfl Try.func44 (by kernel_rfl) rfl #[.slice A0_12 l0_12.length c0_12, .int .i64 50] rfl (by (try simp only [List.map_toArray, List.map_cons, List.map_nil]); first | done | rfl | (simp only [List.length_drop, List.length_take]; rfl)) ?_; (with_reducible refine (opts_Number.calls k _ _ l0_12 50 t352 t353 _ ?side1 ?side2 A3.out).mono ?_); (case side1 => repeat (first | exact (Kd.C_below HR0_12.out HB.out) | (with_reducible refine Kd.C_alloc ?_ _) | (with_reducible refine Kd.C_drewN ?_ _) | (with_reducible refine Kd.C_drew ?_))); (case side2 => exact HC0_12.out); rintro e w32 ⟨rfl, hb⟩; refine ⟨_, rfl, ?_⟩; have n0_ := Aside0.mk (blk_below (g := gb349) (o := .cells #[.int .i64 a0_0, .int .i64 a0_1, .int .i64 a0_2, .int .i64 a0_3, .int .i64 a0_4, .int .i64 a0_5, .int .i64 a0_6, .int .i64 a0_7, .int .i64 a0_8, .int .i64 a0_9, .int .i64 a0_10, .slice A0_11 l0_11.length c0_11, .slice A0_12 l0_12.length c0_12] 42 (0, 0)) (by (with_reducible repeat (first | refine blk_drewN ?_ _ | refine blk_drew ?_ | refine blk_alloc ?_ _)); exact BK349.out) hb); have n1_ := Aside0.mk (below_step (by repeat (first | (with_reducible first | exact HB.out | apply below_alloc | apply pw_below_drewN | apply below_drew1 | refine below_set ?_ GE349.out) | exact HB.out)) hb); clear BK349; clear HB; have BK349 := n0_; have HB := n1_; clear n0_ n1_; (try clear hb); (try clear hb2); (try clear hk); (try clear hi); have hcz33_0 : w32.cell? ⟨gb349, 0, none⟩ = some (.int .i64 a0_0) := (blk_cell BK349.out 0).trans rfl; have hcz33_1 : w32.cell? ⟨gb349, 1, none⟩ = some (.int .i64 a0_1) := (blk_cell BK349.out 1).trans rfl; have hcz33_2 : w32.cell? ⟨gb349, 2, none⟩ = some (.int .i64 a0_2) := (blk_cell BK349.out 2).trans rfl; have hcz33_3 : w32.cell? ⟨gb349, 3, none⟩ = some (.int .i64 a0_3) := (blk_cell BK349.out 3).trans rfl; have hcz33_4 : w32.cell? ⟨gb349, 4, none⟩ = some (.int .i64 a0_4) := (blk_cell BK349.out 4).trans rfl; have hcz33_5 : w32.cell? ⟨gb349, 5, none⟩ = some (.int .i64 a0_5) := (blk_cell BK349.out 5).trans rfl; have hcz33_6 : w32.cell? ⟨gb349, 6, none⟩ = some (.int .i64 a0_6) := (blk_cell BK349.out 6).trans rfl; have hcz33_7 : w32.cell? ⟨gb349, 7, none⟩ = some (.int .i64 a0_7) := (blk_cell BK349.out 7).trans rfl; have hcz33_8 : w32.cell? ⟨gb349, 8, none⟩ = some (.int .i64 a0_8) := (blk_cell BK349.out 8).trans rfl; have hcz33_9 : w32.cell? ⟨gb349, 9, none⟩ = some (.int .i64 a0_9) := (blk_cell BK349.out 9).trans rfl; have hcz33_10 : w32.cell? ⟨gb349, 10, none⟩ = some (.int .i64 a0_10) := (blk_cell BK349.out 10).trans rfl; have hcz33_11 : w32.cell? ⟨gb349, 11, none⟩ = some (.slice A0_11 l0_11.length c0_11) := (blk_cell BK349.out 11).trans rfl; have hcz33_12 : w32.cell? ⟨gb349, 12, none⟩ = some (.slice A0_12 l0_12.length c0_12) := (blk_cell BK349.out 12).trans rfl; have hfz33_0 := blk_frozen BK349.out 0; have hfz33_1 := blk_frozen BK349.out 1; have hfz33_2 := blk_frozen BK349.out 2; have hfz33_3 := blk_frozen BK349.out 3; have hfz33_4 := blk_frozen BK349.out 4; have hfz33_5 := blk_frozen BK349.out 5; have hfz33_6 := blk_frozen BK349.out 6; have hfz33_7 := blk_frozen BK349.out 7; have hfz33_8 := blk_frozen BK349.out 8; have hfz33_9 := blk_frozen BK349.out 9; have hfz33_10 := blk_frozen BK349.out 10; have hfz33_11 := blk_frozen BK349.out 11; have hfz33_12 := blk_frozen BK349.out 12) | ((with_reducible refine gate_callee (f := 45) rfl ?_); refine goesL_ (some 22) rfl rfl Try.func45 (by kernel_rfl) rfl #[.slice A0_12 l0_12.length c0_12] rfl (by (try simp only [List.map_toArray, List.map_cons, List.map_nil]); first | done | rfl | (simp only [List.length_drop, List.length_take]; rfl)) ?_; (with_reducible refine (opts_KindOf.calls k _ _ l0_12 t354 _ ?side1 ?side2 A4.out).mono ?_); (case side1 => repeat (first | exact (Kd.C_below HR0_12.out HB.out) | (with_reducible refine Kd.C_alloc ?_ _) | (with_reducible refine Kd.C_drewN ?_ _) | (with_reducible refine Kd.C_drew ?_))); (case side2 => exact HC0_12.out); rintro e w34 ⟨rfl, hb⟩; refine ⟨_, rfl, ?_⟩; have n0_ := Aside0.mk (blk_below (g := gb349) (o := .cells #[.int .i64 a0_0, .int .i64 a0_1, .int .i64 a0_2, .int .i64 a0_3, .int .i64 a0_4, .int .i64 a0_5, .int .i64 a0_6, .int .i64 a0_7, .int .i64 a0_8, .int .i64 a0_9, .int .i64 a0_10, .slice A0_11 l0_11.length c0_11, .slice A0_12 l0_12.length c0_12] 42 (0, 0)) (by (with_reducible repeat (first | refine blk_drewN ?_ _ | refine blk_drew ?_ | refine blk_alloc ?_ _)); exact BK349.out) hb); have n1_ := Aside0.mk (below_step (by repeat (first | (with_reducible first | exact HB.out | apply below_alloc | apply pw_below_drewN | apply below_drew1 | refine below_set ?_ GE349.out) | exact HB.out)) hb); clear BK349; clear HB; have BK349 := n0_; have HB := n1_; clear n0_ n1_; (try clear hb); (try clear hb2); (try clear hk); (try clear hi)))
    go_ret
    exact ⟨by first | rfl | (simp [errW_none, errW_some] <;> rfl) | (simp [*, errW_none, errW_some] <;> rfl), by repeat (first | (with_reducible first | exact HB.out | apply below_alloc | apply pw_below_drewN | apply below_drew1 | refine below_set ?_ GE349.out) | exact HB.out)⟩

/-! ### class_About: function 35 -/
def class_About.j0 : Nat → Int → Bool → Int → Int → Int → Int → Int → Int → Int → Int → Int → Int → Int → List Int → List (S70) → Option (Int)
  | 0, _, _, _, _, _, _, _, _, _, _, _, _, _, _, _ => none
  | k + 1, x6, x7, x356000, x356001, x356002, x356003, x356004, x356005, x356006, x356007, x356008, x356009, x356010, x356011, x356012 => if x7 = true then ((opts_Number.f k x356012 50).bind fun bt357 => (some bt357.1)) else (if x6 = 3 then (some x356007) else (some 0))
def class_About.f (k : Nat) (a0_0 : Int) (a0_1 : Int) (a0_2 : Int) (a0_3 : Int) (a0_4 : Int) (a0_5 : Int) (a0_6 : Int) (a0_7 : Int) (a0_8 : Int) (a0_9 : Int) (a0_10 : Int) (l0_11 : List Int) (l0_12 : List (S70)) : Option (Int) := (class_Of.f k a0_0 a0_1 a0_2 a0_3 a0_4 a0_5 a0_6 a0_7 a0_8 a0_9 a0_10 l0_11 l0_12).bind fun t356 => (if t356 = 1 then (class_About.j0 k t356 (t356 == 1) a0_0 a0_1 a0_2 a0_3 a0_4 a0_5 a0_6 a0_7 a0_8 a0_9 a0_10 l0_11 l0_12) else (class_About.j0 k t356 (t356 == 2) a0_0 a0_1 a0_2 a0_3 a0_4 a0_5 a0_6 a0_7 a0_8 a0_9 a0_10 l0_11 l0_12))
theorem class_About.mono_l : ∀ k, (∀ y0 y1 y2 y3 y4 y5 y6 y7 y8 y9 y10 y11 y12 y13 y14, LeO (class_About.j0 k y0 y1 y2 y3 y4 y5 y6 y7 y8 y9 y10 y11 y12 y13 y14) (class_About.j0 (k + 1) y0 y1 y2 y3 y4 y5 y6 y7 y8 y9 y10 y11 y12 y13 y14))
  | 0 => fun _ _ _ _ _ _ _ _ _ _ _ _ _ _ _ r h => by simp [class_About.j0] at h
  | k + 1 => by
    have ih0 := class_About.mono_l k
    · intro y0 y1 y2 y3 y4 y5 y6 y7 y8 y9 y10 y11 y12 y13 y14
      unfold class_About.j0
      repeat' first
      | (with_reducible exact ih0 _ _ _ _ _ _ _ _ _ _ _ _ _ _ _)
      | (with_reducible exact class_Of.mono _ _ _ _ _ _ _ _ _ _ _ _ _ _)
      | (with_reducible exact opts_Number.mono _ _ _)
      | (with_reducible exact LeO.refl _)
      | (with_reducible exact LeO.none _)
      | (with_reducible refine LeO.ite ?_ ?_)
      | (with_reducible refine LeO.bind ?_ (fun _ => ?_))
      | exact ih0 _ _ _ _ _ _ _ _ _ _ _ _ _ _ _
      | exact class_Of.mono _ _ _ _ _ _ _ _ _ _ _ _ _ _
      | exact opts_Number.mono _ _ _
      | exact LeO.none _
      | refine LeO.ite ?_ ?_
      | refine LeO.bind ?_ (fun _ => ?_)
theorem class_About.mono : ∀ a0 a1 a2 a3 a4 a5 a6 a7 a8 a9 a10 a11 a12 k, LeO (class_About.f k a0 a1 a2 a3 a4 a5 a6 a7 a8 a9 a10 a11 a12) (class_About.f (k + 1) a0 a1 a2 a3 a4 a5 a6 a7 a8 a9 a10 a11 a12) := by
  intro a0 a1 a2 a3 a4 a5 a6 a7 a8 a9 a10 a11 a12 k
  have ih0 := class_About.mono_l k
  unfold class_About.f
  repeat' first
      | (with_reducible exact ih0 _ _ _ _ _ _ _ _ _ _ _ _ _ _ _)
      | (with_reducible exact class_Of.mono _ _ _ _ _ _ _ _ _ _ _ _ _ _)
      | (with_reducible exact opts_Number.mono _ _ _)
      | (with_reducible exact LeO.refl _)
      | (with_reducible exact LeO.none _)
      | (with_reducible refine LeO.ite ?_ ?_)
      | (with_reducible refine LeO.bind ?_ (fun _ => ?_))
      | exact ih0 _ _ _ _ _ _ _ _ _ _ _ _ _ _ _
      | exact class_Of.mono _ _ _ _ _ _ _ _ _ _ _ _ _ _
      | exact opts_Number.mono _ _ _
      | exact LeO.none _
      | refine LeO.ite ?_ ?_
      | refine LeO.bind ?_ (fun _ => ?_)
set_option maxHeartbeats 8000000 in
set_option maxRecDepth 100000 in
theorem class_About.calls (k : Nat) (a0_0 : Int) (a0_1 : Int) (a0_2 : Int) (a0_3 : Int) (a0_4 : Int) (a0_5 : Int) (a0_6 : Int) (a0_7 : Int) (a0_8 : Int) (a0_9 : Int) (a0_10 : Int) (A0_11 : Option Addr) (c0_11 : Nat) (l0_11 : List Int) (A0_12 : Option Addr) (c0_12 : Nat) (l0_12 : List (S70)) (r : Int) (w : World) (hr0_11 : Kd.C (Kd.int .u8) w A0_11 l0_11.length l0_11) (hc0_11 : l0_11.length ≤ c0_11) (hr0_12 : Kd.C k70 w A0_12 l0_12.length l0_12) (hc0_12 : l0_12.length ≤ c0_12) (h : class_About.f k a0_0 a0_1 a0_2 a0_3 a0_4 a0_5 a0_6 a0_7 a0_8 a0_9 a0_10 l0_11 l0_12 = some r) :
    Calls Try.prog 35 #[.agg #[.int .i64 a0_0, .int .i64 a0_1, .int .i64 a0_2, .int .i64 a0_3, .int .i64 a0_4, .int .i64 a0_5, .int .i64 a0_6, .int .i64 a0_7, .int .i64 a0_8, .int .i64 a0_9, .int .i64 a0_10, .slice A0_11 l0_11.length c0_11, .slice A0_12 l0_12.length c0_12]] w fun e w' => e = .returned (.int .i64 r) ∧ Below w.heap.size w w' := by
  have hu42 := Try.underlying42
  have HR0_11 := Aside0.mk hr0_11
  have HC0_11 := Aside0.mk hc0_11
  clear hr0_11 hc0_11
  have HR0_12 := Aside0.mk hr0_12
  have HC0_12 := Aside0.mk hc0_12
  clear hr0_12 hc0_12
  have HB := Aside0.mk (Below.refl w.heap.size w)
  have H : ((class_Of.f k a0_0 a0_1 a0_2 a0_3 a0_4 a0_5 a0_6 a0_7 a0_8 a0_9 a0_10 l0_11 l0_12).bind fun t356 => (if t356 = 1 then (class_About.j0 k t356 (t356 == 1) a0_0 a0_1 a0_2 a0_3 a0_4 a0_5 a0_6 a0_7 a0_8 a0_9 a0_10 l0_11 l0_12) else (class_About.j0 k t356 (t356 == 2) a0_0 a0_1 a0_2 a0_3 a0_4 a0_5 a0_6 a0_7 a0_8 a0_9 a0_10 l0_11 l0_12))) = some r := h
  clear h
  replace H := Option.bind_eq_some_iff.mp H
  obtain ⟨t356, A20, H⟩ := H
  replace H : (if t356 = 1 then (class_About.j0 k t356 (t356 == 1) a0_0 a0_1 a0_2 a0_3 a0_4 a0_5 a0_6 a0_7 a0_8 a0_9 a0_10 l0_11 l0_12) else (class_About.j0 k t356 (t356 == 2) a0_0 a0_1 a0_2 a0_3 a0_4 a0_5 a0_6 a0_7 a0_8 a0_9 a0_10 l0_11 l0_12)) = some r := H
  have A2 := Aside0.mk A20
  clear A20
  have HC3 := Aside0.mk H
  clear H
  go_enter Try.func35, Try.ntmps35
  go_upto_if 7 with (first | ((with_reducible refine gate_dst (N := 1) rfl ?_); refine box_event ?hg (N := 1) ?hd (cs := #[.int .i64 a0_0, .int .i64 a0_1, .int .i64 a0_2, .int .i64 a0_3, .int .i64 a0_4, .int .i64 a0_5, .int .i64 a0_6, .int .i64 a0_7, .int .i64 a0_8, .int .i64 a0_9, .int .i64 a0_10, .slice A0_11 l0_11.length c0_11, .slice A0_12 l0_12.length c0_12]) (t := 42) ?hr ?_; (case hd => rfl); (case hg => rfl); (case hr => first | (go_simp; done) | (go_simp; rfl)); intro gb355 hg w4 hbox hb; have n0_ := Aside0.mk (below_step (by repeat (first | (with_reducible first | exact HB.out | apply below_alloc | apply pw_below_drewN | apply below_drew1) | exact HB.out)) hb); have n1_ := Aside0.mk (hbox); have n2_ := Aside0.mk ((by rw [hg]; exact (below_size (by repeat (first | (with_reducible first | exact HB.out | apply below_alloc | apply pw_below_drewN | apply below_drew1) | exact HB.out))) : w.heap.size ≤ gb355)); have n3_ := Aside0.mk ((by rw [hg]; exact (below_size (by repeat (first | (with_reducible first | exact HB.out | apply below_alloc | apply pw_below_drewN | apply below_drew1) | exact HB.out))) : w.heap.size ≤ gb355)); clear HB; have HB := n0_; have BK355 := n1_; have GW355 := n2_; have GE355 := n3_; clear n0_ n1_ n2_ n3_; clear hb hbox hg; have hcz5_0 : w4.cell? ⟨gb355, 0, none⟩ = some (.int .i64 a0_0) := (blk_cell BK355.out 0).trans rfl; have hcz5_1 : w4.cell? ⟨gb355, 1, none⟩ = some (.int .i64 a0_1) := (blk_cell BK355.out 1).trans rfl; have hcz5_2 : w4.cell? ⟨gb355, 2, none⟩ = some (.int .i64 a0_2) := (blk_cell BK355.out 2).trans rfl; have hcz5_3 : w4.cell? ⟨gb355, 3, none⟩ = some (.int .i64 a0_3) := (blk_cell BK355.out 3).trans rfl; have hcz5_4 : w4.cell? ⟨gb355, 4, none⟩ = some (.int .i64 a0_4) := (blk_cell BK355.out 4).trans rfl; have hcz5_5 : w4.cell? ⟨gb355, 5, none⟩ = some (.int .i64 a0_5) := (blk_cell BK355.out 5).trans rfl; have hcz5_6 : w4.cell? ⟨gb355, 6, none⟩ = some (.int .i64 a0_6) := (blk_cell BK355.out 6).trans rfl; have hcz5_7 : w4.cell? ⟨gb355, 7, none⟩ = some (.int .i64 a0_7) := (blk_cell BK355.out 7).trans rfl; have hcz5_8 : w4.cell? ⟨gb355, 8, none⟩ = some (.int .i64 a0_8) := (blk_cell BK355.out 8).trans rfl; have hcz5_9 : w4.cell? ⟨gb355, 9, none⟩ = some (.int .i64 a0_9) := (blk_cell BK355.out 9).trans rfl; have hcz5_10 : w4.cell? ⟨gb355, 10, none⟩ = some (.int .i64 a0_10) := (blk_cell BK355.out 10).trans rfl; have hcz5_11 : w4.cell? ⟨gb355, 11, none⟩ = some (.slice A0_11 l0_11.length c0_11) := (blk_cell BK355.out 11).trans rfl; have hcz5_12 : w4.cell? ⟨gb355, 12, none⟩ = some (.slice A0_12 l0_12.length c0_12) := (blk_cell BK355.out 12).trans rfl; have hfz5_0 := blk_frozen BK355.out 0; have hfz5_1 := blk_frozen BK355.out 1; have hfz5_2 := blk_frozen BK355.out 2; have hfz5_3 := blk_frozen BK355.out 3; have hfz5_4 := blk_frozen BK355.out 4; have hfz5_5 := blk_frozen BK355.out 5; have hfz5_6 := blk_frozen BK355.out 6; have hfz5_7 := blk_frozen BK355.out 7; have hfz5_8 := blk_frozen BK355.out 8; have hfz5_9 := blk_frozen BK355.out 9; have hfz5_10 := blk_frozen BK355.out 10; have hfz5_11 := blk_frozen BK355.out 11; have hfz5_12 := blk_frozen BK355.out 12) | ((with_reducible refine gate_callee (f := 33) rfl ?_); refine goesL_ (some 6) rfl rfl Try.func33 (by kernel_rfl) rfl #[.agg #[.int .i64 a0_0, .int .i64 a0_1, .int .i64 a0_2, .int .i64 a0_3, .int .i64 a0_4, .int .i64 a0_5, .int .i64 a0_6, .int .i64 a0_7, .int .i64 a0_8, .int .i64 a0_9, .int .i64 a0_10, .slice A0_11 l0_11.length c0_11, .slice A0_12 l0_12.length c0_12]] rfl (by (try simp only [List.map_toArray, List.map_cons, List.map_nil]); first | done | rfl | (simp only [List.length_drop, List.length_take]; rfl)) ?_; (with_reducible refine (class_Of.calls k a0_0 a0_1 a0_2 a0_3 a0_4 a0_5 a0_6 a0_7 a0_8 a0_9 a0_10 _ _ l0_11 _ _ l0_12 t356 _ ?side1 ?side2 ?side3 ?side4 A2.out).mono ?_); (case side1 => repeat (first | exact (Kd.C_below HR0_11.out HB.out) | (with_reducible refine Kd.C_alloc ?_ _) | (with_reducible refine Kd.C_drewN ?_ _) | (with_reducible refine Kd.C_drew ?_))); (case side2 => exact HC0_11.out); (case side3 => repeat (first | exact (Kd.C_below HR0_12.out HB.out) | (with_reducible refine Kd.C_alloc ?_ _) | (with_reducible refine Kd.C_drewN ?_ _) | (with_reducible refine Kd.C_drew ?_))); (case side4 => exact HC0_12.out); rintro e w6 ⟨rfl, hb⟩; refine ⟨_, rfl, ?_⟩; have n0_ := Aside0.mk (blk_below (g := gb355) (o := .cells #[.int .i64 a0_0, .int .i64 a0_1, .int .i64 a0_2, .int .i64 a0_3, .int .i64 a0_4, .int .i64 a0_5, .int .i64 a0_6, .int .i64 a0_7, .int .i64 a0_8, .int .i64 a0_9, .int .i64 a0_10, .slice A0_11 l0_11.length c0_11, .slice A0_12 l0_12.length c0_12] 42 (0, 0)) (by (with_reducible repeat (first | refine blk_drewN ?_ _ | refine blk_drew ?_ | refine blk_alloc ?_ _)); exact BK355.out) hb); have n1_ := Aside0.mk (below_step (by repeat (first | (with_reducible first | exact HB.out | apply below_alloc | apply pw_below_drewN | apply below_drew1 | refine below_set ?_ GE355.out) | exact HB.out)) hb); clear BK355; clear HB; have BK355 := n0_; have HB := n1_; clear n0_ n1_; (try clear hb); (try clear hb2); (try clear hk); (try clear hi)))
  (try simp only [Act.put, List.setIfInBounds_toArray, List.set_cons_zero, List.set_cons_succ])
  go_cut [7] (fun v7 wc => ∃ (kq : Nat) (x7_2 : Bool), v7 = .bool x7_2 ∧ Aside0 (class_About.j0 kq t356 x7_2 a0_0 a0_1 a0_2 a0_3 a0_4 a0_5 a0_6 a0_7 a0_8 a0_9 a0_10 l0_11 l0_12 = some r) ∧ Aside0 (kq ≤ k) ∧ Aside0 (wc.heap[gb355]? = some (.cells #[.int .i64 a0_0, .int .i64 a0_1, .int .i64 a0_2, .int .i64 a0_3, .int .i64 a0_4, .int .i64 a0_5, .int .i64 a0_6, .int .i64 a0_7, .int .i64 a0_8, .int .i64 a0_9, .int .i64 a0_10, (.slice A0_11 l0_11.length c0_11), (.slice A0_12 l0_12.length c0_12)] 42 (0, 0))) ∧ Aside0 (Below w.heap.size w wc))
  case first =>
    have H := HC3.out
    clear HC3
    by_cases c7 : t356 = 1
    · rw [if_pos c7] at H
      have c7b0 : (t356 == 1) = true := beq_iff_eq.mpr c7
      have c7b1 : (t356 != 1) = false := bne_eq_false_iff_eq.mpr c7
      clear c7
      (first | rw [c7b0] | (simp only [i64_w, i32_w]; rw [c7b0]) | skip)
      have H' := Aside0.mk H
      clear H
      go_wp2
      go_meet
      case rel => exact ⟨_, ((t356 == 1)), (by first | rfl | (simp; done) | (simp [*]; done)), H', ⟨by first | omega | exact Nat.le_refl _⟩, ⟨by (with_reducible repeat (first | refine blk_drewN ?_ _ | refine blk_drew ?_ | refine blk_alloc ?_ _)); exact BK355.out⟩, ⟨by repeat (first | (with_reducible first | exact HB.out | apply below_alloc | apply pw_below_drewN | apply below_drew1 | refine below_set ?_ GE355.out) | exact HB.out)⟩⟩
    · rw [if_neg c7] at H
      have c7b0 : (t356 == 1) = false := beq_eq_false_iff_ne.mpr c7
      have c7b1 : (t356 != 1) = true := bne_iff_ne.mpr c7
      (first | rw [c7b0] | (simp only [i64_w, i32_w]; rw [c7b0]) | skip)
      have H' := Aside0.mk H
      clear H
      go_wp2
      go_meet
      case rel => exact ⟨_, ((t356 == 2)), (by first | rfl | (simp; done) | (simp [*]; done)), H', ⟨by first | omega | exact Nat.le_refl _⟩, ⟨by (with_reducible repeat (first | refine blk_drewN ?_ _ | refine blk_drew ?_ | refine blk_alloc ?_ _)); exact BK355.out⟩, ⟨by repeat (first | (with_reducible first | exact HB.out | apply below_alloc | apply pw_below_drewN | apply below_drew1 | refine below_set ?_ GE355.out) | exact HB.out)⟩⟩
  case rest =>
    clear HC3
    try clear p2
    try clear c3
    try clear c7
    try clear c7b0
    try clear c7b1
    try clear hcz5_0
    try clear hcz5_1
    try clear hcz5_10
    try clear hcz5_11
    try clear hcz5_12
    try clear hcz5_2
    try clear hcz5_3
    try clear hcz5_4
    try clear hcz5_5
    try clear hcz5_6
    try clear hcz5_7
    try clear hcz5_8
    try clear hcz5_9
    try clear hfz5_0
    try clear hfz5_1
    try clear hfz5_10
    try clear hfz5_11
    try clear hfz5_12
    try clear hfz5_2
    try clear hfz5_3
    try clear hfz5_4
    try clear hfz5_5
    try clear hfz5_6
    try clear hfz5_7
    try clear hfz5_8
    try clear hfz5_9
    obtain ⟨kq, x7_2, rfl, HA, HJ2, BK355, HB⟩ := hcut
    cases kq with
    | zero => exact absurd HA.out (by simp [class_About.j0])
    | succ kj2 =>
      have H := HA.out
      clear HA
      simp only [class_About.j0] at H
      by_cases c8 : x7_2 = true
      · subst c8
        have H1 : ((opts_Number.f kj2 l0_12 50).bind fun bt357 => (some bt357.1)) = some r := by rw [if_pos rfl] at H; exact H
        clear H
        have H := H1
        clear H1
        replace H := Option.bind_eq_some_iff.mp H
        obtain ⟨⟨t357, t358⟩, A90, H⟩ := H
        replace H : (some t357) = some r := H
        have A9 := Aside0.mk A90
        clear A90
        obtain rfl := Option.some.inj H
        have hcz10_0 : wc.cell? ⟨gb355, 0, none⟩ = some (.int .i64 a0_0) := (blk_cell BK355.out 0).trans rfl
        have hcz10_1 : wc.cell? ⟨gb355, 1, none⟩ = some (.int .i64 a0_1) := (blk_cell BK355.out 1).trans rfl
        have hcz10_2 : wc.cell? ⟨gb355, 2, none⟩ = some (.int .i64 a0_2) := (blk_cell BK355.out 2).trans rfl
        have hcz10_3 : wc.cell? ⟨gb355, 3, none⟩ = some (.int .i64 a0_3) := (blk_cell BK355.out 3).trans rfl
        have hcz10_4 : wc.cell? ⟨gb355, 4, none⟩ = some (.int .i64 a0_4) := (blk_cell BK355.out 4).trans rfl
        have hcz10_5 : wc.cell? ⟨gb355, 5, none⟩ = some (.int .i64 a0_5) := (blk_cell BK355.out 5).trans rfl
        have hcz10_6 : wc.cell? ⟨gb355, 6, none⟩ = some (.int .i64 a0_6) := (blk_cell BK355.out 6).trans rfl
        have hcz10_7 : wc.cell? ⟨gb355, 7, none⟩ = some (.int .i64 a0_7) := (blk_cell BK355.out 7).trans rfl
        have hcz10_8 : wc.cell? ⟨gb355, 8, none⟩ = some (.int .i64 a0_8) := (blk_cell BK355.out 8).trans rfl
        have hcz10_9 : wc.cell? ⟨gb355, 9, none⟩ = some (.int .i64 a0_9) := (blk_cell BK355.out 9).trans rfl
        have hcz10_10 : wc.cell? ⟨gb355, 10, none⟩ = some (.int .i64 a0_10) := (blk_cell BK355.out 10).trans rfl
        have hcz10_11 : wc.cell? ⟨gb355, 11, none⟩ = some (.slice A0_11 l0_11.length c0_11) := (blk_cell BK355.out 11).trans rfl
        have hcz10_12 : wc.cell? ⟨gb355, 12, none⟩ = some (.slice A0_12 l0_12.length c0_12) := (blk_cell BK355.out 12).trans rfl
        have hfz10_0 := blk_frozen BK355.out 0
        have hfz10_1 := blk_frozen BK355.out 1
        have hfz10_2 := blk_frozen BK355.out 2
        have hfz10_3 := blk_frozen BK355.out 3
        have hfz10_4 := blk_frozen BK355.out 4
        have hfz10_5 := blk_frozen BK355.out 5
        have hfz10_6 := blk_frozen BK355.out 6
        have hfz10_7 := blk_frozen BK355.out 7
        have hfz10_8 := blk_frozen BK355.out 8
        have hfz10_9 := blk_frozen BK355.out 9
        have hfz10_10 := blk_frozen BK355.out 10
        have hfz10_11 := blk_frozen BK355.out 11
        have hfz10_12 := blk_frozen BK355.out 12
        go_wp2_with (first | ((with_reducible refine gate_callee (f := 44) rfl ?_); refine goesL_ (some 13) rfl rfl Try.func44 (by kernel_rfl) rfl #[.slice A0_12 l0_12.length c0_12, .int .i64 50] rfl (by (try simp only [List.map_toArray, List.map_cons, List.map_nil]); first | done | rfl | (simp only [List.length_drop, List.length_take]; rfl)) ?_; (with_reducible refine (opts_Number.calls kj2 _ _ l0_12 50 t357 t358 _ ?side1 ?side2 A9.out).mono ?_); (case side1 => repeat (first | exact (Kd.C_below HR0_12.out HB.out) | (with_reducible refine Kd.C_alloc ?_ _) | (with_reducible refine Kd.C_drewN ?_ _) | (with_reducible refine Kd.C_drew ?_))); (case side2 => exact HC0_12.out); rintro e w11 ⟨rfl, hb⟩; refine ⟨_, rfl, ?_⟩; have n0_ := Aside0.mk (blk_below (g := gb355) (o := .cells #[.int .i64 a0_0, .int .i64 a0_1, .int .i64 a0_2, .int .i64 a0_3, .int .i64 a0_4, .int .i64 a0_5, .int .i64 a0_6, .int .i64 a0_7, .int .i64 a0_8, .int .i64 a0_9, .int .i64 a0_10, .slice A0_11 l0_11.length c0_11, .slice A0_12 l0_12.length c0_12] 42 (0, 0)) (by (with_reducible repeat (first | refine blk_drewN ?_ _ | refine blk_drew ?_ | refine blk_alloc ?_ _)); exact BK355.out) hb); have n1_ := Aside0.mk (below_step (by repeat (first | (with_reducible first | exact HB.out | apply below_alloc | apply pw_below_drewN | apply below_drew1 | refine below_set ?_ GE355.out) | exact HB.out)) hb); clear BK355; clear HB; have BK355 := n0_; have HB := n1_; clear n0_ n1_; (try clear hb); (try clear hb2); (try clear hk); (try clear hi)))
        go_ret
        exact ⟨by first | rfl | (simp [errW_none, errW_some] <;> rfl) | (simp [*, errW_none, errW_some] <;> rfl), by repeat (first | (with_reducible first | exact HB.out | apply below_alloc | apply pw_below_drewN | apply below_drew1 | refine below_set ?_ GE355.out) | exact HB.out)⟩
      · replace c8 := Bool.eq_false_iff.mpr c8
        subst c8
        have H1 : (if t356 = 3 then (some a0_7) else (some 0)) = some r := by rw [if_neg (show ¬ (false = true) by decide)] at H; exact H
        clear H
        have H := H1
        clear H1
        by_cases c12 : t356 = 3
        · rw [if_pos c12] at H
          have c12b0 : (t356 == 3) = true := beq_iff_eq.mpr c12
          have c12b1 : (t356 != 3) = false := bne_eq_false_iff_eq.mpr c12
          clear c12
          obtain rfl := Option.some.inj H
          have hcz13_0 : wc.cell? ⟨gb355, 0, none⟩ = some (.int .i64 a0_0) := (blk_cell BK355.out 0).trans rfl
          have hcz13_1 : wc.cell? ⟨gb355, 1, none⟩ = some (.int .i64 a0_1) := (blk_cell BK355.out 1).trans rfl
          have hcz13_2 : wc.cell? ⟨gb355, 2, none⟩ = some (.int .i64 a0_2) := (blk_cell BK355.out 2).trans rfl
          have hcz13_3 : wc.cell? ⟨gb355, 3, none⟩ = some (.int .i64 a0_3) := (blk_cell BK355.out 3).trans rfl
          have hcz13_4 : wc.cell? ⟨gb355, 4, none⟩ = some (.int .i64 a0_4) := (blk_cell BK355.out 4).trans rfl
          have hcz13_5 : wc.cell? ⟨gb355, 5, none⟩ = some (.int .i64 a0_5) := (blk_cell BK355.out 5).trans rfl
          have hcz13_6 : wc.cell? ⟨gb355, 6, none⟩ = some (.int .i64 a0_6) := (blk_cell BK355.out 6).trans rfl
          have hcz13_7 : wc.cell? ⟨gb355, 7, none⟩ = some (.int .i64 a0_7) := (blk_cell BK355.out 7).trans rfl
          have hcz13_8 : wc.cell? ⟨gb355, 8, none⟩ = some (.int .i64 a0_8) := (blk_cell BK355.out 8).trans rfl
          have hcz13_9 : wc.cell? ⟨gb355, 9, none⟩ = some (.int .i64 a0_9) := (blk_cell BK355.out 9).trans rfl
          have hcz13_10 : wc.cell? ⟨gb355, 10, none⟩ = some (.int .i64 a0_10) := (blk_cell BK355.out 10).trans rfl
          have hcz13_11 : wc.cell? ⟨gb355, 11, none⟩ = some (.slice A0_11 l0_11.length c0_11) := (blk_cell BK355.out 11).trans rfl
          have hcz13_12 : wc.cell? ⟨gb355, 12, none⟩ = some (.slice A0_12 l0_12.length c0_12) := (blk_cell BK355.out 12).trans rfl
          have hfz13_0 := blk_frozen BK355.out 0
          have hfz13_1 := blk_frozen BK355.out 1
          have hfz13_2 := blk_frozen BK355.out 2
          have hfz13_3 := blk_frozen BK355.out 3
          have hfz13_4 := blk_frozen BK355.out 4
          have hfz13_5 := blk_frozen BK355.out 5
          have hfz13_6 := blk_frozen BK355.out 6
          have hfz13_7 := blk_frozen BK355.out 7
          have hfz13_8 := blk_frozen BK355.out 8
          have hfz13_9 := blk_frozen BK355.out 9
          have hfz13_10 := blk_frozen BK355.out 10
          have hfz13_11 := blk_frozen BK355.out 11
          have hfz13_12 := blk_frozen BK355.out 12
          go_wp2
          go_ret
          exact ⟨by first | rfl | (simp [errW_none, errW_some] <;> rfl) | (simp [*, errW_none, errW_some] <;> rfl), by repeat (first | (with_reducible first | exact HB.out | apply below_alloc | apply pw_below_drewN | apply below_drew1 | refine below_set ?_ GE355.out) | exact HB.out)⟩
        · rw [if_neg c12] at H
          have c12b0 : (t356 == 3) = false := beq_eq_false_iff_ne.mpr c12
          have c12b1 : (t356 != 3) = true := bne_iff_ne.mpr c12
          obtain rfl := Option.some.inj H
          go_wp2
          go_ret
          exact ⟨by first | rfl | (simp [errW_none, errW_some] <;> rfl) | (simp [*, errW_none, errW_some] <;> rfl), by repeat (first | (with_reducible first | exact HB.out | apply below_alloc | apply pw_below_drewN | apply below_drew1 | refine below_set ?_ GE355.out) | exact HB.out)⟩

end Go.Proofs.Ytiklcnlehlpdaaa.POps
