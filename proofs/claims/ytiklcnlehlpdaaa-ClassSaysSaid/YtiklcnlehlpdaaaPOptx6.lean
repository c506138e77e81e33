-- printed by a program of this session, made after the kit's own printer
import Derived.Test.YtiklcnlehlpdaaaPOptx0
import Derived.Test.YtiklcnlehlpdaaaPOptx1
import Derived.Test.YtiklcnlehlpdaaaPOptx2
import Derived.Test.YtiklcnlehlpdaaaPOptx3
namespace Go.Proofs.Ytiklcnlehlpdaaa.POpt
open Go.RowKit Go.Proofs.YtiklcnlehlpdaaaW.PrintWords Go.Proofs.YtiklcnlehlpdaaaW.PrintLast Go.Proofs.YtiklcnlehlpdaaaW.PrintMore
attribute [local go_sem] max2_int min2_int max_two min_two max_three min_three max_four min_four   -- for this text's walks alone
set_option linter.unusedVariables false
set_option linter.unusedSimpArgs false

/-! ### boarderlaw16_ClassSays: function 9 -/
mutual
def boarderlaw16_ClassSays.j0 : Nat → Int → Int → Bool → Int → Int → Int → Int → Int → Int → Int → Int → Int → Int → Int → List Int → List (S70) → Option (Bool)
  | 0, _, _, _, _, _, _, _, _, _, _, _, _, _, _, _, _ => none
  | k + 1, x1, x5, x47, x229000, x229001, x229002, x229003, x229004, x229005, x229006, x229007, x229008, x229009, x229010, x229011, x229012 => if x47 = true then (some false) else ((class_Foreign.f k x229000 x229001 x229002 x229003 x229004 x229005 x229006 x229007 x229008 x229009 x229010 x229011 x229012 x1).bind fun t238 => (if t238 = true then (if x5 = 2 then (boarderlaw16_ClassSays.j1 k x5 true x229000 x229001 x229002 x229003 x229004 x229005 x229006 x229007 x229008 x229009 x229010 x229011 x229012) else (boarderlaw16_ClassSays.j1 k x5 (x5 == 3) x229000 x229001 x229002 x229003 x229004 x229005 x229006 x229007 x229008 x229009 x229010 x229011 x229012)) else (boarderlaw16_ClassSays.j1 k x5 false x229000 x229001 x229002 x229003 x229004 x229005 x229006 x229007 x229008 x229009 x229010 x229011 x229012)))
def boarderlaw16_ClassSays.j1 : Nat → Int → Bool → Int → Int → Int → Int → Int → Int → Int → Int → Int → Int → Int → List Int → List (S70) → Option (Bool)
  | 0, _, _, _, _, _, _, _, _, _, _, _, _, _, _, _ => none
  | k + 1, x5, x58, x229000, x229001, x229002, x229003, x229004, x229005, x229006, x229007, x229008, x229009, x229010, x229011, x229012 => if x58 = true then (some false) else (if x5 = 0 then ((boarderlaw16_knows.f k).bind fun t239 => (some t239)) else ((boarderref05_Kind.f k x229012).bind fun t240 => (if t240 = 3 then ((boarderlaw16_knows.f k).bind fun t241 => (some t241)) else (some false))))
end
def boarderlaw16_ClassSays.f (k : Nat) (a0_0 : Int) (a0_1 : Int) (a0_2 : Int) (a0_3 : Int) (a0_4 : Int) (a0_5 : Int) (a0_6 : Int) (a0_7 : Int) (a0_8 : Int) (a0_9 : Int) (a0_10 : Int) (l0_11 : List Int) (l0_12 : List (S70)) (a1 : Int) : Option (Bool) := (boarderlaw04_Great.f k a0_0 a0_1 a0_2 a0_3 a0_4 a0_5 a0_6 a0_7 a0_8 a0_9 a0_10 l0_11 l0_12).bind fun t229 => (if t229 = true then ((boarderlaw16_knows.f k).bind fun t230 => (some t230)) else ((class_Of.f k a0_0 a0_1 a0_2 a0_3 a0_4 a0_5 a0_6 a0_7 a0_8 a0_9 a0_10 l0_11 l0_12).bind fun t231 => ((boarderref05_Number.f k l0_12 54).bind fun bt232 => ((boarderref05_Number.f k l0_12 50).bind fun bt234 => (if t231 = 1 then (if bt232.2 = true then (if bt234.2 = true then ((class_About.f k a0_0 a0_1 a0_2 a0_3 a0_4 a0_5 a0_6 a0_7 a0_8 a0_9 a0_10 l0_11 l0_12).bind fun t236 => (if t236 = bt234.1 then ((class_Foreign.f k a0_0 a0_1 a0_2 a0_3 a0_4 a0_5 a0_6 a0_7 a0_8 a0_9 a0_10 l0_11 l0_12 bt232.1).bind fun t237 => (boarderlaw16_ClassSays.j0 k a1 t231 t237 a0_0 a0_1 a0_2 a0_3 a0_4 a0_5 a0_6 a0_7 a0_8 a0_9 a0_10 l0_11 l0_12)) else (boarderlaw16_ClassSays.j0 k a1 t231 true a0_0 a0_1 a0_2 a0_3 a0_4 a0_5 a0_6 a0_7 a0_8 a0_9 a0_10 l0_11 l0_12))) else (boarderlaw16_ClassSays.j0 k a1 t231 true a0_0 a0_1 a0_2 a0_3 a0_4 a0_5 a0_6 a0_7 a0_8 a0_9 a0_10 l0_11 l0_12)) else (boarderlaw16_ClassSays.j0 k a1 t231 true a0_0 a0_1 a0_2 a0_3 a0_4 a0_5 a0_6 a0_7 a0_8 a0_9 a0_10 l0_11 l0_12)) else (boarderlaw16_ClassSays.j0 k a1 t231 false a0_0 a0_1 a0_2 a0_3 a0_4 a0_5 a0_6 a0_7 a0_8 a0_9 a0_10 l0_11 l0_12))))))
theorem boarderlaw16_ClassSays.mono_l : ∀ k, (∀ y0 y1 y2 y3 y4 y5 y6 y7 y8 y9 y10 y11 y12 y13 y14 y15, LeO (boarderlaw16_ClassSays.j0 k y0 y1 y2 y3 y4 y5 y6 y7 y8 y9 y10 y11 y12 y13 y14 y15) (boarderlaw16_ClassSays.j0 (k + 1) y0 y1 y2 y3 y4 y5 y6 y7 y8 y9 y10 y11 y12 y13 y14 y15)) ∧ (∀ y0 y1 y2 y3 y4 y5 y6 y7 y8 y9 y10 y11 y12 y13 y14, LeO (boarderlaw16_ClassSays.j1 k y0 y1 y2 y3 y4 y5 y6 y7 y8 y9 y10 y11 y12 y13 y14) (boarderlaw16_ClassSays.j1 (k + 1) y0 y1 y2 y3 y4 y5 y6 y7 y8 y9 y10 y11 y12 y13 y14))
  | 0 => ⟨fun _ _ _ _ _ _ _ _ _ _ _ _ _ _ _ _ r h => by simp [boarderlaw16_ClassSays.j0] at h, fun _ _ _ _ _ _ _ _ _ _ _ _ _ _ _ r h => by simp [boarderlaw16_ClassSays.j1] at h⟩
  | k + 1 => by
    obtain ⟨ih0, ih1⟩ := boarderlaw16_ClassSays.mono_l k
    refine ⟨?_, ?_⟩
    · intro y0 y1 y2 y3 y4 y5 y6 y7 y8 y9 y10 y11 y12 y13 y14 y15
      unfold boarderlaw16_ClassSays.j0
      repeat' first
      | (with_reducible exact ih0 _ _ _ _ _ _ _ _ _ _ _ _ _ _ _ _)
      | (with_reducible exact ih1 _ _ _ _ _ _ _ _ _ _ _ _ _ _ _)
      | (with_reducible exact boarderlaw04_Great.mono _ _ _ _ _ _ _ _ _ _ _ _ _ _)
      | (with_reducible exact boarderlaw16_knows.mono _)
      | (with_reducible exact boarderref05_Kind.mono _ _)
      | (with_reducible exact boarderref05_Number.mono _ _ _)
      | (with_reducible exact class_About.mono _ _ _ _ _ _ _ _ _ _ _ _ _ _)
      | (with_reducible exact class_Foreign.mono _ _ _ _ _ _ _ _ _ _ _ _ _ _ _)
      | (with_reducible exact class_Of.mono _ _ _ _ _ _ _ _ _ _ _ _ _ _)
      | (with_reducible exact LeO.refl _)
      | (with_reducible exact LeO.none _)
      | (with_reducible refine LeO.ite ?_ ?_)
      | (with_reducible refine LeO.bind ?_ (fun _ => ?_))
      | exact ih0 _ _ _ _ _ _ _ _ _ _ _ _ _ _ _ _
      | exact ih1 _ _ _ _ _ _ _ _ _ _ _ _ _ _ _
      | exact boarderlaw04_Great.mono _ _ _ _ _ _ _ _ _ _ _ _ _ _
      | exact boarderlaw16_knows.mono _
      | exact boarderref05_Kind.mono _ _
      | exact boarderref05_Number.mono _ _ _
      | exact class_About.mono _ _ _ _ _ _ _ _ _ _ _ _ _ _
      | exact class_Foreign.mono _ _ _ _ _ _ _ _ _ _ _ _ _ _ _
      | exact class_Of.mono _ _ _ _ _ _ _ _ _ _ _ _ _ _
      | exact LeO.none _
      | refine LeO.ite ?_ ?_
      | refine LeO.bind ?_ (fun _ => ?_)
    · intro y0 y1 y2 y3 y4 y5 y6 y7 y8 y9 y10 y11 y12 y13 y14
      unfold boarderlaw16_ClassSays.j1
      repeat' first
      | (with_reducible exact ih0 _ _ _ _ _ _ _ _ _ _ _ _ _ _ _ _)
      | (with_reducible exact ih1 _ _ _ _ _ _ _ _ _ _ _ _ _ _ _)
      | (with_reducible exact boarderlaw04_Great.mono _ _ _ _ _ _ _ _ _ _ _ _ _ _)
      | (with_reducible exact boarderlaw16_knows.mono _)
      | (with_reducible exact boarderref05_Kind.mono _ _)
      | (with_reducible exact boarderref05_Number.mono _ _ _)
      | (with_reducible exact class_About.mono _ _ _ _ _ _ _ _ _ _ _ _ _ _)
      | (with_reducible exact class_Foreign.mono _ _ _ _ _ _ _ _ _ _ _ _ _ _ _)
      | (with_reducible exact class_Of.mono _ _ _ _ _ _ _ _ _ _ _ _ _ _)
      | (with_reducible exact LeO.refl _)
      | (with_reducible exact LeO.none _)
      | (with_reducible refine LeO.ite ?_ ?_)
      | (with_reducible refine LeO.bind ?_ (fun _ => ?_))
      | exact ih0 _ _ _ _ _ _ _ _ _ _ _ _ _ _ _ _
      | exact ih1 _ _ _ _ _ _ _ _ _ _ _ _ _ _ _
      | exact boarderlaw04_Great.mono _ _ _ _ _ _ _ _ _ _ _ _ _ _
      | exact boarderlaw16_knows.mono _
      | exact boarderref05_Kind.mono _ _
      | exact boarderref05_Number.mono _ _ _
      | exact class_About.mono _ _ _ _ _ _ _ _ _ _ _ _ _ _
      | exact class_Foreign.mono _ _ _ _ _ _ _ _ _ _ _ _ _ _ _
      | exact class_Of.mono _ _ _ _ _ _ _ _ _ _ _ _ _ _
      | exact LeO.none _
      | refine LeO.ite ?_ ?_
      | refine LeO.bind ?_ (fun _ => ?_)
theorem boarderlaw16_ClassSays.mono : ∀ a0 a1 a2 a3 a4 a5 a6 a7 a8 a9 a10 a11 a12 a13 k, LeO (boarderlaw16_ClassSays.f k a0 a1 a2 a3 a4 a5 a6 a7 a8 a9 a10 a11 a12 a13) (boarderlaw16_ClassSays.f (k + 1) a0 a1 a2 a3 a4 a5 a6 a7 a8 a9 a10 a11 a12 a13) := by
  intro a0 a1 a2 a3 a4 a5 a6 a7 a8 a9 a10 a11 a12 a13 k
  obtain ⟨ih0, ih1⟩ := boarderlaw16_ClassSays.mono_l k
  unfold boarderlaw16_ClassSays.f
  repeat' first
      | (with_reducible exact ih0 _ _ _ _ _ _ _ _ _ _ _ _ _ _ _ _)
      | (with_reducible exact ih1 _ _ _ _ _ _ _ _ _ _ _ _ _ _ _)
      | (with_reducible exact boarderlaw04_Great.mono _ _ _ _ _ _ _ _ _ _ _ _ _ _)
      | (with_reducible exact boarderlaw16_knows.mono _)
      | (with_reducible exact boarderref05_Kind.mono _ _)
      | (with_reducible exact boarderref05_Number.mono _ _ _)
      | (with_reducible exact class_About.mono _ _ _ _ _ _ _ _ _ _ _ _ _ _)
      | (with_reducible exact class_Foreign.mono _ _ _ _ _ _ _ _ _ _ _ _ _ _ _)
      | (with_reducible exact class_Of.mono _ _ _ _ _ _ _ _ _ _ _ _ _ _)
      | (with_reducible exact LeO.refl _)
      | (with_reducible exact LeO.none _)
      | (with_reducible refine LeO.ite ?_ ?_)
      | (with_reducible refine LeO.bind ?_ (fun _ => ?_))
      | exact ih0 _ _ _ _ _ _ _ _ _ _ _ _ _ _ _ _
      | exact ih1 _ _ _ _ _ _ _ _ _ _ _ _ _ _ _
      | exact boarderlaw04_Great.mono _ _ _ _ _ _ _ _ _ _ _ _ _ _
      | exact boarderlaw16_knows.mono _
      | exact boarderref05_Kind.mono _ _
      | exact boarderref05_Number.mono _ _ _
      | exact class_About.mono _ _ _ _ _ _ _ _ _ _ _ _ _ _
      | exact class_Foreign.mono _ _ _ _ _ _ _ _ _ _ _ _ _ _ _
      | exact class_Of.mono _ _ _ _ _ _ _ _ _ _ _ _ _ _
      | exact LeO.none _
      | refine LeO.ite ?_ ?_
      | refine LeO.bind ?_ (fun _ => ?_)
set_option maxHeartbeats 8000000 in
set_option maxRecDepth 100000 in
theorem boarderlaw16_ClassSays.calls (k : Nat) (a0_0 : Int) (a0_1 : Int) (a0_2 : Int) (a0_3 : Int) (a0_4 : Int) (a0_5 : Int) (a0_6 : Int) (a0_7 : Int) (a0_8 : Int) (a0_9 : Int) (a0_10 : Int) (A0_11 : Option Addr) (c0_11 : Nat) (l0_11 : List Int) (A0_12 : Option Addr) (c0_12 : Nat) (l0_12 : List (S70)) (a1 : Int) (r : Bool) (w : World) (hr0_11 : Kd.C (Kd.int .u8) w A0_11 l0_11.length l0_11) (hc0_11 : l0_11.length ≤ c0_11) (hr0_12 : Kd.C k70 w A0_12 l0_12.length l0_12) (hc0_12 : l0_12.length ≤ c0_12) (h : boarderlaw16_ClassSays.f k a0_0 a0_1 a0_2 a0_3 a0_4 a0_5 a0_6 a0_7 a0_8 a0_9 a0_10 l0_11 l0_12 a1 = some r) :
    Calls Try.prog 9 #[.agg #[.int .i64 a0_0, .int .i64 a0_1, .int .i64 a0_2, .int .i64 a0_3, .int .i64 a0_4, .int .i64 a0_5, .int .i64 a0_6, .int .i64 a0_7, .int .i64 a0_8, .int .i64 a0_9, .int .i64 a0_10, .slice A0_11 l0_11.length c0_11, .slice A0_12 l0_12.length c0_12], .int .i64 a1] w fun e w' => e = .returned (.bool r) ∧ Below w.heap.size w w' := by
  have hu42 := Try.underlying42
  have HR0_11 := Aside0.mk hr0_11
  have HC0_11 := Aside0.mk hc0_11
  clear hr0_11 hc0_11
  have HR0_12 := Aside0.mk hr0_12
  have HC0_12 := Aside0.mk hc0_12
  clear hr0_12 hc0_12
  have HB := Aside0.mk (Below.refl w.heap.size w)
  have H : ((boarderlaw04_Great.f k a0_0 a0_1 a0_2 a0_3 a0_4 a0_5 a0_6 a0_7 a0_8 a0_9 a0_10 l0_11 l0_12).bind fun t229 => (if t229 = true then ((boarderlaw16_knows.f k).bind fun t230 => (some t230)) else ((class_Of.f k a0_0 a0_1 a0_2 a0_3 a0_4 a0_5 a0_6 a0_7 a0_8 a0_9 a0_10 l0_11 l0_12).bind fun t231 => ((boarderref05_Number.f k l0_12 54).bind fun bt232 => ((boarderref05_Number.f k l0_12 50).bind fun bt234 => (if t231 = 1 then (if bt232.2 = true then (if bt234.2 = true then ((class_About.f k a0_0 a0_1 a0_2 a0_3 a0_4 a0_5 a0_6 a0_7 a0_8 a0_9 a0_10 l0_11 l0_12).bind fun t236 => (if t236 = bt234.1 then ((class_Foreign.f k a0_0 a0_1 a0_2 a0_3 a0_4 a0_5 a0_6 a0_7 a0_8 a0_9 a0_10 l0_11 l0_12 bt232.1).bind fun t237 => (boarderlaw16_ClassSays.j0 k a1 t231 t237 a0_0 a0_1 a0_2 a0_3 a0_4 a0_5 a0_6 a0_7 a0_8 a0_9 a0_10 l0_11 l0_12)) else (boarderlaw16_ClassSays.j0 k a1 t231 true a0_0 a0_1 a0_2 a0_3 a0_4 a0_5 a0_6 a0_7 a0_8 a0_9 a0_10 l0_11 l0_12))) else (boarderlaw16_ClassSays.j0 k a1 t231 true a0_0 a0_1 a0_2 a0_3 a0_4 a0_5 a0_6 a0_7 a0_8 a0_9 a0_10 l0_11 l0_12)) else (boarderlaw16_ClassSays.j0 k a1 t231 true a0_0 a0_1 a0_2 a0_3 a0_4 a0_5 a0_6 a0_7 a0_8 a0_9 a0_10 l0_11 l0_12)) else (boarderlaw16_ClassSays.j0 k a1 t231 false a0_0 a0_1 a0_2 a0_3 a0_4 a0_5 a0_6 a0_7 a0_8 a0_9 a0_10 l0_11 l0_12))))))) = some r := h
  clear h
  replace H := Option.bind_eq_some_iff.mp H
  obtain ⟨t229, A30, H⟩ := H
  replace H : (if t229 = true then ((boarderlaw16_knows.f k).bind fun t230 => (some t230)) else ((class_Of.f k a0_0 a0_1 a0_2 a0_3 a0_4 a0_5 a0_6 a0_7 a0_8 a0_9 a0_10 l0_11 l0_12).bind fun t231 => ((boarderref05_Number.f k l0_12 54).bind fun bt232 => ((boarderref05_Number.f k l0_12 50).bind fun bt234 => (if t231 = 1 then (if bt232.2 = true then (if bt234.2 = true then ((class_About.f k a0_0 a0_1 a0_2 a0_3 a0_4 a0_5 a0_6 a0_7 a0_8 a0_9 a0_10 l0_11 l0_12).bind fun t236 => (if t236 = bt234.1 then ((class_Foreign.f k a0_0 a0_1 a0_2 a0_3 a0_4 a0_5 a0_6 a0_7 a0_8 a0_9 a0_10 l0_11 l0_12 bt232.1).bind fun t237 => (boarderlaw16_ClassSays.j0 k a1 t231 t237 a0_0 a0_1 a0_2 a0_3 a0_4 a0_5 a0_6 a0_7 a0_8 a0_9 a0_10 l0_11 l0_12)) else (boarderlaw16_ClassSays.j0 k a1 t231 true a0_0 a0_1 a0_2 a0_3 a0_4 a0_5 a0_6 a0_7 a0_8 a0_9 a0_10 l0_11 l0_12))) else (boarderlaw16_ClassSays.j0 k a1 t231 true a0_0 a0_1 a0_2 a0_3 a0_4 a0_5 a0_6 a0_7 a0_8 a0_9 a0_10 l0_11 l0_12)) else (boarderlaw16_ClassSays.j0 k a1 t231 true a0_0 a0_1 a0_2 a0_3 a0_4 a0_5 a0_6 a0_7 a0_8 a0_9 a0_10 l0_11 l0_12)) else (boarderlaw16_ClassSays.j0 k a1 t231 false a0_0 a0_1 a0_2 a0_3 a0_4 a0_5 a0_6 a0_7 a0_8 a0_9 a0_10 l0_11 l0_12)))))) = some r := H
  have A3 := Aside0.mk A30
  clear A30
  have HS4 := Aside0.mk H
  clear H
  go_enter Try.func9, Try.ntmps9
  go_wp2_with (first | ((with_reducible refine gate_dst (N := 2) rfl ?_); refine box_event ?hg (N := 2) ?hd (cs := #[.int .i64 a0_0, .int .i64 a0_1, .int .i64 a0_2, .int .i64 a0_3, .int .i64 a0_4, .int .i64 a0_5, .int .i64 a0_6, .int .i64 a0_7, .int .i64 a0_8, .int .i64 a0_9, .int .i64 a0_10, .slice A0_11 l0_11.length c0_11, .slice A0_12 l0_12.length c0_12]) (t := 42) ?hr ?_; (case hd => rfl); (case hg => rfl); (case hr => first | (go_simp; done) | (go_simp; rfl)); intro gb228 hg w5 hbox hb; have n0_ := Aside0.mk (below_step (by repeat (first | (with_reducible first | exact HB.out | apply below_alloc | apply pw_below_drewN | apply below_drew1) | exact HB.out)) hb); have n1_ := Aside0.mk (hbox); have n2_ := Aside0.mk ((by rw [hg]; exact (below_size (by repeat (first | (with_reducible first | exact HB.out | apply below_alloc | apply pw_below_drewN | apply below_drew1) | exact HB.out))) : w.heap.size ≤ gb228)); have n3_ := Aside0.mk ((by rw [hg]; exact (below_size (by repeat (first | (with_reducible first | exact HB.out | apply below_alloc | apply pw_below_drewN | apply below_drew1) | exact HB.out))) : w.heap.size ≤ gb228)); clear HB; have HB := n0_; have BK228 := n1_; have GW228 := n2_; have GE228 := n3_; clear n0_ n1_ n2_ n3_; clear hb hbox hg; have hcz6_0 : w5.cell? ⟨gb228, 0, none⟩ = some (.int .i64 a0_0) := (blk_cell BK228.out 0).trans rfl; have hcz6_1 : w5.cell? ⟨gb228, 1, none⟩ = some (.int .i64 a0_1) := (blk_cell BK228.out 1).trans rfl; have hcz6_2 : w5.cell? ⟨gb228, 2, none⟩ = some (.int .i64 a0_2) := (blk_cell BK228.out 2).trans rfl; have hcz6_3 : w5.cell? ⟨gb228, 3, none⟩ = some (.int .i64 a0_3) := (blk_cell BK228.out 3).trans rfl; have hcz6_4 : w5.cell? ⟨gb228, 4, none⟩ = some (.int .i64 a0_4) := (blk_cell BK228.out 4).trans rfl; have hcz6_5 : w5.cell? ⟨gb228, 5, none⟩ = some (.int .i64 a0_5) := (blk_cell BK228.out 5).trans rfl; have hcz6_6 : w5.cell? ⟨gb228, 6, none⟩ = some (.int .i64 a0_6) := (blk_cell BK228.out 6).trans rfl; have hcz6_7 : w5.cell? ⟨gb228, 7, none⟩ = some (.int .i64 a0_7) := (blk_cell BK228.out 7).trans rfl; have hcz6_8 : w5.cell? ⟨gb228, 8, none⟩ = some (.int .i64 a0_8) := (blk_cell BK228.out 8).trans rfl; have hcz6_9 : w5.cell? ⟨gb228, 9, none⟩ = some (.int .i64 a0_9) := (blk_cell BK228.out 9).trans rfl; have hcz6_10 : w5.cell? ⟨gb228, 10, none⟩ = some (.int .i64 a0_10) := (blk_cell BK228.out 10).trans rfl; have hcz6_11 : w5.cell? ⟨gb228, 11, none⟩ = some (.slice A0_11 l0_11.length c0_11) := (blk_cell BK228.out 11).trans rfl; have hcz6_12 : w5.cell? ⟨gb228, 12, none⟩ = some (.slice A0_12 l0_12.length c0_12) := (blk_cell BK228.out 12).trans rfl; have hfz6_0 := blk_frozen BK228.out 0; have hfz6_1 := blk_frozen BK228.out 1; have hfz6_2 := blk_frozen BK228.out 2; have hfz6_3 := blk_frozen BK228.out 3; have hfz6_4 := blk_frozen BK228.out 4; have hfz6_5 := blk_frozen BK228.out 5; have hfz6_6 := blk_frozen BK228.out 6; have hfz6_7 := blk_frozen BK228.out 7; have hfz6_8 := blk_frozen BK228.out 8; have hfz6_9 := blk_frozen BK228.out 9; have hfz6_10 := blk_frozen BK228.out 10; have hfz6_11 := blk_frozen BK228.out 11; have hfz6_12 := blk_frozen BK228.out 12))
  have H := HS4.out
  clear HS4
  by_cases c7 : t229 = true
  · subst c7
    have H1 : ((boarderlaw16_knows.f k).bind fun t230 => (some t230)) = some r := by rw [if_pos rfl] at H; exact H
    clear H
    have H := H1
    clear H1
    replace H := Option.bind_eq_some_iff.mp H
    obtain ⟨t230, A80, H⟩ := H
    replace H : (some t230) = some r := H
    have A8 := Aside0.mk A80
    clear A80
    obtain rfl := Option.some.inj H
    go_wp2_with (first | (go_at_call 30; (with_reducible refine (boarderlaw04_Great.calls k a0_0 a0_1 a0_2 a0_3 a0_4 a0_5 a0_6 a0_7 a0_8 a0_9 a0_10 _ _ l0_11 _ _ l0_12 true _ ?side1 ?side2 ?side3 ?side4 A3.out).mono ?_); (case side1 => repeat (first | exact (Kd.C_below HR0_11.out HB.out) | (with_reducible refine Kd.C_alloc ?_ _) | (with_reducible refine Kd.C_drewN ?_ _) | (with_reducible refine Kd.C_drew ?_))); (case side2 => exact HC0_11.out); (case side3 => repeat (first | exact (Kd.C_below HR0_12.out HB.out) | (with_reducible refine Kd.C_alloc ?_ _) | (with_reducible refine Kd.C_drewN ?_ _) | (with_reducible refine Kd.C_drew ?_))); (case side4 => exact HC0_12.out); rintro e w9 ⟨rfl, hb⟩; have n0_ := Aside0.mk (blk_below (g := gb228) (o := .cells #[.int .i64 a0_0, .int .i64 a0_1, .int .i64 a0_2, .int .i64 a0_3, .int .i64 a0_4, .int .i64 a0_5, .int .i64 a0_6, .int .i64 a0_7, .int .i64 a0_8, .int .i64 a0_9, .int .i64 a0_10, .slice A0_11 l0_11.length c0_11, .slice A0_12 l0_12.length c0_12] 42 (0, 0)) (by (with_reducible repeat (first | refine blk_drewN ?_ _ | refine blk_drew ?_ | refine blk_alloc ?_ _)); exact BK228.out) hb); have n1_ := Aside0.mk (below_step (by repeat (first | (with_reducible first | exact HB.out | apply below_alloc | apply pw_below_drewN | apply below_drew1 | refine below_set ?_ GE228.out) | exact HB.out)) hb); clear BK228; clear HB; have BK228 := n0_; have HB := n1_; clear n0_ n1_; (try clear hb); (try clear hb2); (try clear hk); (try clear hi); (try clear A3)) | ((with_reducible refine gate_callee (f := 31) rfl ?_); refine goesL_ (some 12) rfl rfl Try.func31 (by kernel_rfl) rfl #[] rfl (by (try simp only [List.map_toArray, List.map_cons, List.map_nil]); first | done | rfl | (simp only [List.length_drop, List.length_take]; rfl)) ?_; (with_reducible refine (boarderlaw16_knows.calls k  t230 _ A8.out).mono ?_); rintro e w10 ⟨rfl, hb⟩; refine ⟨_, rfl, ?_⟩; have n0_ := Aside0.mk (blk_below (g := gb228) (o := .cells #[.int .i64 a0_0, .int .i64 a0_1, .int .i64 a0_2, .int .i64 a0_3, .int .i64 a0_4, .int .i64 a0_5, .int .i64 a0_6, .int .i64 a0_7, .int .i64 a0_8, .int .i64 a0_9, .int .i64 a0_10, .slice A0_11 l0_11.length c0_11, .slice A0_12 l0_12.length c0_12] 42 (0, 0)) (by (with_reducible repeat (first | refine blk_drewN ?_ _ | refine blk_drew ?_ | refine blk_alloc ?_ _)); exact BK228.out) hb); have n1_ := Aside0.mk (below_step (by repeat (first | (with_reducible first | exact HB.out | apply below_alloc | apply pw_below_drewN | apply below_drew1 | refine below_set ?_ GE228.out) | exact HB.out)) hb); clear BK228; clear HB; have BK228 := n0_; have HB := n1_; clear n0_ n1_; (try clear hb); (try clear hb2); (try clear hk); (try clear hi); (try clear A8)))
    go_ret
    exact ⟨by first | rfl | (simp [errW_none, errW_some] <;> rfl) | (simp [*, errW_none, errW_some] <;> rfl), by repeat (first | (with_reducible first | exact HB.out | apply below_alloc | apply pw_below_drewN | apply below_drew1 | refine below_set ?_ GE228.out) | exact HB.out)⟩
  · replace c7 := Bool.eq_false_iff.mpr c7
    subst c7
    have H1 : ((class_Of.f k a0_0 a0_1 a0_2 a0_3 a0_4 a0_5 a0_6 a0_7 a0_8 a0_9 a0_10 l0_11 l0_12).bind fun t231 => ((boarderref05_Number.f k l0_12 54).bind fun bt232 => ((boarderref05_Number.f k l0_12 50).bind fun bt234 => (if t231 = 1 then (if bt232.2 = true then (if bt234.2 = true then ((class_About.f k a0_0 a0_1 a0_2 a0_3 a0_4 a0_5 a0_6 a0_7 a0_8 a0_9 a0_10 l0_11 l0_12).bind fun t236 => (if t236 = bt234.1 then ((class_Foreign.f k a0_0 a0_1 a0_2 a0_3 a0_4 a0_5 a0_6 a0_7 a0_8 a0_9 a0_10 l0_11 l0_12 bt232.1).bind fun t237 => (boarderlaw16_ClassSays.j0 k a1 t231 t237 a0_0 a0_1 a0_2 a0_3 a0_4 a0_5 a0_6 a0_7 a0_8 a0_9 a0_10 l0_11 l0_12)) else (boarderlaw16_ClassSays.j0 k a1 t231 true a0_0 a0_1 a0_2 a0_3 a0_4 a0_5 a0_6 a0_7 a0_8 a0_9 a0_10 l0_11 l0_12))) else (boarderlaw16_ClassSays.j0 k a1 t231 true a0_0 a0_1 a0_2 a0_3 a0_4 a0_5 a0_6 a0_7 a0_8 a0_9 a0_10 l0_11 l0_12)) else (boarderlaw16_ClassSays.j0 k a1 t231 true a0_0 a0_1 a0_2 a0_3 a0_4 a0_5 a0_6 a0_7 a0_8 a0_9 a0_10 l0_11 l0_12)) else (boarderlaw16_ClassSays.j0 k a1 t231 false a0_0 a0_1 a0_2 a0_3 a0_4 a0_5 a0_6 a0_7 a0_8 a0_9 a0_10 l0_11 l0_12))))) = some r := by rw [if_neg (show ¬ (false = true) by decide)] at H; exact H
    clear H
    have H := H1
    clear H1
    replace H := Option.bind_eq_some_iff.mp H
    obtain ⟨t231, A110, H⟩ := H
    replace H : ((boarderref05_Number.f k l0_12 54).bind fun bt232 => ((boarderref05_Number.f k l0_12 50).bind fun bt234 => (if t231 = 1 then (if bt232.2 = true then (if bt234.2 = true then ((class_About.f k a0_0 a0_1 a0_2 a0_3 a0_4 a0_5 a0_6 a0_7 a0_8 a0_9 a0_10 l0_11 l0_12).bind fun t236 => (if t236 = bt234.1 then ((class_Foreign.f k a0_0 a0_1 a0_2 a0_3 a0_4 a0_5 a0_6 a0_7 a0_8 a0_9 a0_10 l0_11 l0_12 bt232.1).bind fun t237 => (boarderlaw16_ClassSays.j0 k a1 t231 t237 a0_0 a0_1 a0_2 a0_3 a0_4 a0_5 a0_6 a0_7 a0_8 a0_9 a0_10 l0_11 l0_12)) else (boarderlaw16_ClassSays.j0 k a1 t231 true a0_0 a0_1 a0_2 a0_3 a0_4 a0_5 a0_6 a0_7 a0_8 a0_9 a0_10 l0_11 l0_12))) else (boarderlaw16_ClassSays.j0 k a1 t231 true a0_0 a0_1 a0_2 a0_3 a0_4 a0_5 a0_6 a0_7 a0_8 a0_9 a0_10 l0_11 l0_12)) else (boarderlaw16_ClassSays.j0 k a1 t231 true a0_0 a0_1 a0_2 a0_3 a0_4 a0_5 a0_6 a0_7 a0_8 a0_9 a0_10 l0_11 l0_12)) else (boarderlaw16_ClassSays.j0 k a1 t231 false a0_0 a0_1 a0_2 a0_3 a0_4 a0_5 a0_6 a0_7 a0_8 a0_9 a0_10 l0_11 l0_12)))) = some r := H
    have A11 := Aside0.mk A110
    clear A110
    replace H := Option.bind_eq_some_iff.mp H
    obtain ⟨⟨t232, t233⟩, A120, H⟩ := H
    replace H : ((boarderref05_Number.f k l0_12 50).bind fun bt234 => (if t231 = 1 then (if t233 = true then (if bt234.2 = true then ((class_About.f k a0_0 a0_1 a0_2 a0_3 a0_4 a0_5 a0_6 a0_7 a0_8 a0_9 a0_10 l0_11 l0_12).bind fun t236 => (if t236 = bt234.1 then ((class_Foreign.f k a0_0 a0_1 a0_2 a0_3 a0_4 a0_5 a0_6 a0_7 a0_8 a0_9 a0_10 l0_11 l0_12 t232).bind fun t237 => (boarderlaw16_ClassSays.j0 k a1 t231 t237 a0_0 a0_1 a0_2 a0_3 a0_4 a0_5 a0_6 a0_7 a0_8 a0_9 a0_10 l0_11 l0_12)) else (boarderlaw16_ClassSays.j0 k a1 t231 true a0_0 a0_1 a0_2 a0_3 a0_4 a0_5 a0_6 a0_7 a0_8 a0_9 a0_10 l0_11 l0_12))) else (boarderlaw16_ClassSays.j0 k a1 t231 true a0_0 a0_1 a0_2 a0_3 a0_4 a0_5 a0_6 a0_7 a0_8 a0_9 a0_10 l0_11 l0_12)) else (boarderlaw16_ClassSays.j0 k a1 t231 true a0_0 a0_1 a0_2 a0_3 a0_4 a0_5 a0_6 a0_7 a0_8 a0_9 a0_10 l0_11 l0_12)) else (boarderlaw16_ClassSays.j0 k a1 t231 false a0_0 a0_1 a0_2 a0_3 a0_4 a0_5 a0_6 a0_7 a0_8 a0_9 a0_10 l0_11 l0_12))) = some r := H
    have A12 := Aside0.mk A120
    clear A120
    replace H := Option.bind_eq_some_iff.mp H
    obtain ⟨⟨t234, t235⟩, A130, H⟩ := H
    replace H : (if t231 = 1 then (if t233 = true then (if t235 = true then ((class_About.f k a0_0 a0_1 a0_2 a0_3 a0_4 a0_5 a0_6 a0_7 a0_8 a0_9 a0_10 l0_11 l0_12).bind fun t236 => (if t236 = t234 then ((class_Foreign.f k a0_0 a0_1 a0_2 a0_3 a0_4 a0_5 a0_6 a0_7 a0_8 a0_9 a0_10 l0_11 l0_12 t232).bind fun t237 => (boarderlaw16_ClassSays.j0 k a1 t231 t237 a0_0 a0_1 a0_2 a0_3 a0_4 a0_5 a0_6 a0_7 a0_8 a0_9 a0_10 l0_11 l0_12)) else (boarderlaw16_ClassSays.j0 k a1 t231 true a0_0 a0_1 a0_2 a0_3 a0_4 a0_5 a0_6 a0_7 a0_8 a0_9 a0_10 l0_11 l0_12))) else (boarderlaw16_ClassSays.j0 k a1 t231 true a0_0 a0_1 a0_2 a0_3 a0_4 a0_5 a0_6 a0_7 a0_8 a0_9 a0_10 l0_11 l0_12)) else (boarderlaw16_ClassSays.j0 k a1 t231 true a0_0 a0_1 a0_2 a0_3 a0_4 a0_5 a0_6 a0_7 a0_8 a0_9 a0_10 l0_11 l0_12)) else (boarderlaw16_ClassSays.j0 k a1 t231 false a0_0 a0_1 a0_2 a0_3 a0_4 a0_5 a0_6 a0_7 a0_8 a0_9 a0_10 l0_11 l0_12)) = some r := H
    have A13 := Aside0.mk A130
    clear A130
    have HC14 := Aside0.mk H
    clear H
    go_upto_region 6 with (first | (go_at_call 30; (with_reducible refine (boarderlaw04_Great.calls k a0_0 a0_1 a0_2 a0_3 a0_4 a0_5 a0_6 a0_7 a0_8 a0_9 a0_10 _ _ l0_11 _ _ l0_12 false _ ?side1 ?side2 ?side3 ?side4 A3.out).mono ?_); (case side1 => repeat (first | exact (Kd.C_below HR0_11.out HB.out) | (with_reducible refine Kd.C_alloc ?_ _) | (with_reducible refine Kd.C_drewN ?_ _) | (with_reducible refine Kd.C_drew ?_))); (case side2 => exact HC0_11.out); (case side3 => repeat (first | exact (Kd.C_below HR0_12.out HB.out) | (with_reducible refine Kd.C_alloc ?_ _) | (with_reducible refine Kd.C_drewN ?_ _) | (with_reducible refine Kd.C_drew ?_))); (case side4 => exact HC0_12.out); rintro e w15 ⟨rfl, hb⟩; have n0_ := Aside0.mk (blk_below (g := gb228) (o := .cells #[.int .i64 a0_0, .int .i64 a0_1, .int .i64 a0_2, .int .i64 a0_3, .int .i64 a0_4, .int .i64 a0_5, .int .i64 a0_6, .int .i64 a0_7, .int .i64 a0_8, .int .i64 a0_9, .int .i64 a0_10, .slice A0_11 l0_11.length c0_11, .slice A0_12 l0_12.length c0_12] 42 (0, 0)) (by (with_reducible repeat (first | refine blk_drewN ?_ _ | refine blk_drew ?_ | refine blk_alloc ?_ _)); exact BK228.out) hb); have n1_ := Aside0.mk (below_step (by repeat (first | (with_reducible first | exact HB.out | apply below_alloc | apply pw_below_drewN | apply below_drew1 | refine below_set ?_ GE228.out) | exact HB.out)) hb); clear BK228; clear HB; have BK228 := n0_; have HB := n1_; clear n0_ n1_; (try clear hb); (try clear hb2); (try clear hk); (try clear hi); (try clear A3); have hcz16_0 : w15.cell? ⟨gb228, 0, none⟩ = some (.int .i64 a0_0) := (blk_cell BK228.out 0).trans rfl; have hcz16_1 : w15.cell? ⟨gb228, 1, none⟩ = some (.int .i64 a0_1) := (blk_cell BK228.out 1).trans rfl; have hcz16_2 : w15.cell? ⟨gb228, 2, none⟩ = some (.int .i64 a0_2) := (blk_cell BK228.out 2).trans rfl; have hcz16_3 : w15.cell? ⟨gb228, 3, none⟩ = some (.int .i64 a0_3) := (blk_cell BK228.out 3).trans rfl; have hcz16_4 : w15.cell? ⟨gb228, 4, none⟩ = some (.int .i64 a0_4) := (blk_cell BK228.out 4).trans rfl; have hcz16_5 : w15.cell? ⟨gb228, 5, none⟩ = some (.int .i64 a0_5) := (blk_cell BK228.out 5).trans rfl; have hcz16_6 : w15.cell? ⟨gb228, 6, none⟩ = some (.int .i64 a0_6) := (blk_cell BK228.out 6).trans rfl; have hcz16_7 : w15.cell? ⟨gb228, 7, none⟩ = some (.int .i64 a0_7) := (blk_cell BK228.out 7).trans rfl; have hcz16_8 : w15.cell? ⟨gb228, 8, none⟩ = some (.int .i64 a0_8) := (blk_cell BK228.out 8).trans rfl; have hcz16_9 : w15.cell? ⟨gb228, 9, none⟩ = some (.int .i64 a0_9) := (blk_cell BK228.out 9).trans rfl; have hcz16_10 : w15.cell? ⟨gb228, 10, none⟩ = some (.int .i64 a0_10) := (blk_cell BK228.out 10).trans rfl; have hcz16_11 : w15.cell? ⟨gb228, 11, none⟩ = some (.slice A0_11 l0_11.length c0_11) := (blk_cell BK228.out 11).trans rfl; have hcz16_12 : w15.cell? ⟨gb228, 12, none⟩ = some (.slice A0_12 l0_12.length c0_12) := (blk_cell BK228.out 12).trans rfl; have hfz16_0 := blk_frozen BK228.out 0; have hfz16_1 := blk_frozen BK228.out 1; have hfz16_2 := blk_frozen BK228.out 2; have hfz16_3 := blk_frozen BK228.out 3; have hfz16_4 := blk_frozen BK228.out 4; have hfz16_5 := blk_frozen BK228.out 5; have hfz16_6 := blk_frozen BK228.out 6; have hfz16_7 := blk_frozen BK228.out 7; have hfz16_8 := blk_frozen BK228.out 8; have hfz16_9 := blk_frozen BK228.out 9; have hfz16_10 := blk_frozen BK228.out 10; have hfz16_11 := blk_frozen BK228.out 11; have hfz16_12 := blk_frozen BK228.out 12) | ((with_reducible refine gate_callee (f := 33) rfl ?_); refine goesL_ (some 14) rfl rfl Try.func33 (by kernel_rfl) rfl #[.agg #[.int .i64 a0_0, .int .i64 a0_1, .int .i64 a0_2, .int .i64 a0_3, .int .i64 a0_4, .int .i64 a0_5, .int .i64 a0_6, .int .i64 a0_7, .int .i64 a0_8, .int .i64 a0_9, .int .i64 a0_10, .slice A0_11 l0_11.length c0_11, .slice A0_12 l0_12.length c0_12]] rfl (by (try simp only [List.map_toArray, List.map_cons, List.map_nil]); first | done | rfl | (simp only [List.length_drop, List.length_take]; rfl)) ?_; (with_reducible refine (class_Of.calls k a0_0 a0_1 a0_2 a0_3 a0_4 a0_5 a0_6 a0_7 a0_8 a0_9 a0_10 _ _ l0_11 _ _ l0_12 t231 _ ?side1 ?side2 ?side3 ?side4 A11.out).mono ?_); (case side1 => repeat (first | exact (Kd.C_below HR0_11.out HB.out) | (with_reducible refine Kd.C_alloc ?_ _) | (with_reducible refine Kd.C_drewN ?_ _) | (with_reducible refine Kd.C_drew ?_))); (case side2 => exact HC0_11.out); (case side3 => repeat (first | exact (Kd.C_below HR0_12.out HB.out) | (with_reducible refine Kd.C_alloc ?_ _) | (with_reducible refine Kd.C_drewN ?_ _) | (with_reducible refine Kd.C_drew ?_))); (case side4 => exact HC0_12.out); rintro e w17 ⟨rfl, hb⟩; refine ⟨_, rfl, ?_⟩; have n0_ := Aside0.mk (blk_below (g := gb228) (o := .cells #[.int .i64 a0_0, .int .i64 a0_1, .int .i64 a0_2, .int .i64 a0_3, .int .i64 a0_4, .int .i64 a0_5, .int .i64 a0_6, .int .i64 a0_7, .int .i64 a0_8, .int .i64 a0_9, .int .i64 a0_10, .slice A0_11 l0_11.length c0_11, .slice A0_12 l0_12.length c0_12] 42 (0, 0)) (by (with_reducible repeat (first | refine blk_drewN ?_ _ | refine blk_drew ?_ | refine blk_alloc ?_ _)); exact BK228.out) hb); have n1_ := Aside0.mk (below_step (by repeat (first | (with_reducible first | exact HB.out | apply below_alloc | apply pw_below_drewN | apply below_drew1 | refine below_set ?_ GE228.out) | exact HB.out)) hb); clear BK228; clear HB; have BK228 := n0_; have HB := n1_; clear n0_ n1_; (try clear hb); (try clear hb2); (try clear hk); (try clear hi); (try clear A11); have hcz18_0 : w17.cell? ⟨gb228, 0, none⟩ = some (.int .i64 a0_0) := (blk_cell BK228.out 0).trans rfl; have hcz18_1 : w17.cell? ⟨gb228, 1, none⟩ = some (.int .i64 a0_1) := (blk_cell BK228.out 1).trans rfl; have hcz18_2 : w17.cell? ⟨gb228, 2, none⟩ = some (.int .i64 a0_2) := (blk_cell BK228.out 2).trans rfl; have hcz18_3 : w17.cell? ⟨gb228, 3, none⟩ = some (.int .i64 a0_3) := (blk_cell BK228.out 3).trans rfl; have hcz18_4 : w17.cell? ⟨gb228, 4, none⟩ = some (.int .i64 a0_4) := (blk_cell BK228.out 4).trans rfl; have hcz18_5 : w17.cell? ⟨gb228, 5, none⟩ = some (.int .i64 a0_5) := (blk_cell BK228.out 5).trans rfl; have hcz18_6 : w17.cell? ⟨gb228, 6, none⟩ = some (.int .i64 a0_6) := (blk_cell BK228.out 6).trans rfl; have hcz18_7 : w17.cell? ⟨gb228, 7, none⟩ = some (.int .i64 a0_7) := (blk_cell BK228.out 7).trans rfl; have hcz18_8 : w17.cell? ⟨gb228, 8, none⟩ = some (.int .i64 a0_8) := (blk_cell BK228.out 8).trans rfl; have hcz18_9 : w17.cell? ⟨gb228, 9, none⟩ = some (.int .i64 a0_9) := (blk_cell BK228.out 9).trans rfl; have hcz18_10 : w17.cell? ⟨gb228, 10, none⟩ = some (.int .i64 a0_10) := (blk_cell BK228.out 10).trans rfl; have hcz18_11 : w17.cell? ⟨gb228, 11, none⟩ = some (.slice A0_11 l0_11.length c0_11) := (blk_cell BK228.out 11).trans rfl; have hcz18_12 : w17.cell? ⟨gb228, 12, none⟩ = some (.slice A0_12 l0_12.length c0_12) := (blk_cell BK228.out 12).trans rfl; have hfz18_0 := blk_frozen BK228.out 0; have hfz18_1 := blk_frozen BK228.out 1; have hfz18_2 := blk_frozen BK228.out 2; have hfz18_3 := blk_frozen BK228.out 3; have hfz18_4 := blk_frozen BK228.out 4; have hfz18_5 := blk_frozen BK228.out 5; have hfz18_6 := blk_frozen BK228.out 6; have hfz18_7 := blk_frozen BK228.out 7; have hfz18_8 := blk_frozen BK228.out 8; have hfz18_9 := blk_frozen BK228.out 9; have hfz18_10 := blk_frozen BK228.out 10; have hfz18_11 := blk_frozen BK228.out 11; have hfz18_12 := blk_frozen BK228.out 12) | ((with_reducible refine gate_callee (f := 39) rfl ?_); refine goesL_ (some 18) rfl rfl Try.func39 (by kernel_rfl) rfl #[.slice A0_12 l0_12.length c0_12, .int .i64 54] rfl (by (try simp only [List.map_toArray, List.map_cons, List.map_nil]); first | done | rfl | (simp only [List.length_drop, List.length_take]; rfl)) ?_; (with_reducible refine (boarderref05_Number.calls k _ _ l0_12 54 t232 t233 _ ?side1 ?side2 A12.out).mono ?_); (case side1 => repeat (first | exact (Kd.C_below HR0_12.out HB.out) | (with_reducible refine Kd.C_alloc ?_ _) | (with_reducible refine Kd.C_drewN ?_ _) | (with_reducible refine Kd.C_drew ?_))); (case side2 => exact HC0_12.out); rintro e w19 ⟨rfl, hb⟩; refine ⟨_, rfl, ?_⟩; have n0_ := Aside0.mk (blk_below (g := gb228) (o := .cells #[.int .i64 a0_0, .int .i64 a0_1, .int .i64 a0_2, .int .i64 a0_3, .int .i64 a0_4, .int .i64 a0_5, .int .i64 a0_6, .int .i64 a0_7, .int .i64 a0_8, .int .i64 a0_9, .int .i64 a0_10, .slice A0_11 l0_11.length c0_11, .slice A0_12 l0_12.length c0_12] 42 (0, 0)) (by (with_reducible repeat (first | refine blk_drewN ?_ _ | refine blk_drew ?_ | refine blk_alloc ?_ _)); exact BK228.out) hb); have n1_ := Aside0.mk (below_step (by repeat (first | (with_reducible first | exact HB.out | apply below_alloc | apply pw_below_drewN | apply below_drew1 | refine below_set ?_ GE228.out) | exact HB.out)) hb); clear BK228; clear HB; have BK228 := n0_; have HB := n1_; clear n0_ n1_; (try clear hb); (try clear hb2); (try clear hk); (try clear hi); (try clear A12); have hcz20_0 : w19.cell? ⟨gb228, 0, none⟩ = some (.int .i64 a0_0) := (blk_cell BK228.out 0).trans rfl; have hcz20_1 : w19.cell? ⟨gb228, 1, none⟩ = some (.int .i64 a0_1) := (blk_cell BK228.out 1).trans rfl; have hcz20_2 : w19.cell? ⟨gb228, 2, none⟩ = some (.int .i64 a0_2) := (blk_cell BK228.out 2).trans rfl; have hcz20_3 : w19.cell? ⟨gb228, 3, none⟩ = some (.int .i64 a0_3) := (blk_cell BK228.out 3).trans rfl; have hcz20_4 : w19.cell? ⟨gb228, 4, none⟩ = some (.int .i64 a0_4) := (blk_cell BK228.out 4).trans rfl; have hcz20_5 : w19.cell? ⟨gb228, 5, none⟩ = some (.int .i64 a0_5) := (blk_cell BK228.out 5).trans rfl; have hcz20_6 : w19.cell? ⟨gb228, 6, none⟩ = some (.int .i64 a0_6) := (blk_cell BK228.out 6).trans rfl; have hcz20_7 : w19.cell? ⟨gb228, 7, none⟩ = some (.int .i64 a0_7) := (blk_cell BK228.out 7).trans rfl; have hcz20_8 : w19.cell? ⟨gb228, 8, none⟩ = some (.int .i64 a0_8) := (blk_cell BK228.out 8).trans rfl; have hcz20_9 : w19.cell? ⟨gb228, 9, none⟩ = some (.int .i64 a0_9) := (blk_cell BK228.out 9).trans rfl; have hcz20_10 : w19.cell? ⟨gb228, 10, none⟩ = some (.int .i64 a0_10) := (blk_cell BK228.out 10).trans rfl; have hcz20_11 : w19.cell? ⟨gb228, 11, none⟩ = some (.slice A0_11 l0_11.length c0_11) := (blk_cell BK228.out 11).trans rfl; have hcz20_12 : w19.cell? ⟨gb228, 12, none⟩ = some (.slice A0_12 l0_12.length c0_12) := (blk_cell BK228.out 12).trans rfl; have hfz20_0 := blk_frozen BK228.out 0; have hfz20_1 := blk_frozen BK228.out 1; have hfz20_2 := blk_frozen BK228.out 2; have hfz20_3 := blk_frozen BK228.out 3; have hfz20_4 := blk_frozen BK228.out 4; have hfz20_5 := blk_frozen BK228.out 5; have hfz20_6 := blk_frozen BK228.out 6; have hfz20_7 := blk_frozen BK228.out 7; have hfz20_8 := blk_frozen BK228.out 8; have hfz20_9 := blk_frozen BK228.out 9; have hfz20_10 := blk_frozen BK228.out 10; have hfz20_11 := blk_frozen BK228.out 11; have hfz20_12 := blk_frozen BK228.out 12) | ((with_reducible refine gate_callee (f := 39) rfl ?_); refine goesL_ (some 24) rfl rfl Try.func39 (by kernel_rfl) rfl #[.slice A0_12 l0_12.length c0_12, .int .i64 50] rfl (by (try simp only [List.map_toArray, List.map_cons, List.map_nil]); first | done | rfl | (simp only [List.length_drop, List.length_take]; rfl)) ?_; (with_reducible refine (boarderref05_Number.calls k _ _ l0_12 50 t234 t235 _ ?side1 ?side2 A13.out).mono ?_); (case side1 => repeat (first | exact (Kd.C_below HR0_12.out HB.out) | (with_reducible refine Kd.C_alloc ?_ _) | (with_reducible refine Kd.C_drewN ?_ _) | (with_reducible refine Kd.C_drew ?_))); (case side2 => exact HC0_12.out); rintro e w21 ⟨rfl, hb⟩; refine ⟨_, rfl, ?_⟩; have n0_ := Aside0.mk (blk_below (g := gb228) (o := .cells #[.int .i64 a0_0, .int .i64 a0_1, .int .i64 a0_2, .int .i64 a0_3, .int .i64 a0_4, .int .i64 a0_5, .int .i64 a0_6, .int .i64 a0_7, .int .i64 a0_8, .int .i64 a0_9, .int .i64 a0_10, .slice A0_11 l0_11.length c0_11, .slice A0_12 l0_12.length c0_12] 42 (0, 0)) (by (with_reducible repeat (first | refine blk_drewN ?_ _ | refine blk_drew ?_ | refine blk_alloc ?_ _)); exact BK228.out) hb); have n1_ := Aside0.mk (below_step (by repeat (first | (with_reducible first | exact HB.out | apply below_alloc | apply pw_below_drewN | apply below_drew1 | refine below_set ?_ GE228.out) | exact HB.out)) hb); clear BK228; clear HB; have BK228 := n0_; have HB := n1_; clear n0_ n1_; (try clear hb); (try clear hb2); (try clear hk); (try clear hi); (try clear A13)))
    (try simp only [Act.put, List.setIfInBounds_toArray, List.set_cons_zero, List.set_cons_succ])
    go_cut [47] (fun v47 wc => ∃ (kq : Nat) (x47_13 : Bool), v47 = .bool x47_13 ∧ Aside0 (boarderlaw16_ClassSays.j0 kq a1 t231 x47_13 a0_0 a0_1 a0_2 a0_3 a0_4 a0_5 a0_6 a0_7 a0_8 a0_9 a0_10 l0_11 l0_12 = some r) ∧ Aside0 (kq ≤ k) ∧ Aside0 (wc.heap[gb228]? = some (.cells #[.int .i64 a0_0, .int .i64 a0_1, .int .i64 a0_2, .int .i64 a0_3, .int .i64 a0_4, .int .i64 a0_5, .int .i64 a0_6, .int .i64 a0_7, .int .i64 a0_8, .int .i64 a0_9, .int .i64 a0_10, (.slice A0_11 l0_11.length c0_11), (.slice A0_12 l0_12.length c0_12)] 42 (0, 0))) ∧ Aside0 (Below w.heap.size w wc))
    case first =>
      have H := HC14.out
      clear HC14
      by_cases c22 : t231 = 1
      · rw [if_pos c22] at H
        have c22b0 : (t231 == 1) = true := beq_iff_eq.mpr c22
        have c22b1 : (t231 != 1) = false := bne_eq_false_iff_eq.mpr c22
        clear c22
        (first | rw [c22b0] | (simp only [i64_w, i32_w]; rw [c22b0]) | skip)
        by_cases c23 : t233 = true
        · subst c23
          have H1 : (if t235 = true then ((class_About.f k a0_0 a0_1 a0_2 a0_3 a0_4 a0_5 a0_6 a0_7 a0_8 a0_9 a0_10 l0_11 l0_12).bind fun t236 => (if t236 = t234 then ((class_Foreign.f k a0_0 a0_1 a0_2 a0_3 a0_4 a0_5 a0_6 a0_7 a0_8 a0_9 a0_10 l0_11 l0_12 t232).bind fun t237 => (boarderlaw16_ClassSays.j0 k a1 t231 t237 a0_0 a0_1 a0_2 a0_3 a0_4 a0_5 a0_6 a0_7 a0_8 a0_9 a0_10 l0_11 l0_12)) else (boarderlaw16_ClassSays.j0 k a1 t231 true a0_0 a0_1 a0_2 a0_3 a0_4 a0_5 a0_6 a0_7 a0_8 a0_9 a0_10 l0_11 l0_12))) else (boarderlaw16_ClassSays.j0 k a1 t231 true a0_0 a0_1 a0_2 a0_3 a0_4 a0_5 a0_6 a0_7 a0_8 a0_9 a0_10 l0_11 l0_12)) = some r := by rw [if_pos rfl] at H; exact H
          clear H
          have H := H1
          clear H1
          by_cases c24 : t235 = true
          · subst c24
            have H1 : ((class_About.f k a0_0 a0_1 a0_2 a0_3 a0_4 a0_5 a0_6 a0_7 a0_8 a0_9 a0_10 l0_11 l0_12).bind fun t236 => (if t236 = t234 then ((class_Foreign.f k a0_0 a0_1 a0_2 a0_3 a0_4 a0_5 a0_6 a0_7 a0_8 a0_9 a0_10 l0_11 l0_12 t232).bind fun t237 => (boarderlaw16_ClassSays.j0 k a1 t231 t237 a0_0 a0_1 a0_2 a0_3 a0_4 a0_5 a0_6 a0_7 a0_8 a0_9 a0_10 l0_11 l0_12)) else (boarderlaw16_ClassSays.j0 k a1 t231 true a0_0 a0_1 a0_2 a0_3 a0_4 a0_5 a0_6 a0_7 a0_8 a0_9 a0_10 l0_11 l0_12))) = some r := by rw [if_pos rfl] at H; exact H
            clear H
            have H := H1
            clear H1
            replace H := Option.bind_eq_some_iff.mp H
            obtain ⟨t236, A250, H⟩ := H
            replace H : (if t236 = t234 then ((class_Foreign.f k a0_0 a0_1 a0_2 a0_3 a0_4 a0_5 a0_6 a0_7 a0_8 a0_9 a0_10 l0_11 l0_12 t232).bind fun t237 => (boarderlaw16_ClassSays.j0 k a1 t231 t237 a0_0 a0_1 a0_2 a0_3 a0_4 a0_5 a0_6 a0_7 a0_8 a0_9 a0_10 l0_11 l0_12)) else (boarderlaw16_ClassSays.j0 k a1 t231 true a0_0 a0_1 a0_2 a0_3 a0_4 a0_5 a0_6 a0_7 a0_8 a0_9 a0_10 l0_11 l0_12)) = some r := H
            have A25 := Aside0.mk A250
            clear A250
            by_cases c26 : t236 = t234
            · rw [if_pos c26] at H
              have c26b0 : (t236 == t234) = true := beq_iff_eq.mpr c26
              have c26b1 : (t236 != t234) = false := bne_eq_false_iff_eq.mpr c26
              clear c26
              replace H := Option.bind_eq_some_iff.mp H
              obtain ⟨t237, A270, H⟩ := H
              replace H : (boarderlaw16_ClassSays.j0 k a1 t231 t237 a0_0 a0_1 a0_2 a0_3 a0_4 a0_5 a0_6 a0_7 a0_8 a0_9 a0_10 l0_11 l0_12) = some r := H
              have A27 := Aside0.mk A270
              clear A270
              have H' := Aside0.mk H
              clear H
              have hcz28_0 : w21.cell? ⟨gb228, 0, none⟩ = some (.int .i64 a0_0) := (blk_cell BK228.out 0).trans rfl
              have hcz28_1 : w21.cell? ⟨gb228, 1, none⟩ = some (.int .i64 a0_1) := (blk_cell BK228.out 1).trans rfl
              have hcz28_2 : w21.cell? ⟨gb228, 2, none⟩ = some (.int .i64 a0_2) := (blk_cell BK228.out 2).trans rfl
              have hcz28_3 : w21.cell? ⟨gb228, 3, none⟩ = some (.int .i64 a0_3) := (blk_cell BK228.out 3).trans rfl
              have hcz28_4 : w21.cell? ⟨gb228, 4, none⟩ = some (.int .i64 a0_4) := (blk_cell BK228.out 4).trans rfl
              have hcz28_5 : w21.cell? ⟨gb228, 5, none⟩ = some (.int .i64 a0_5) := (blk_cell BK228.out 5).trans rfl
              have hcz28_6 : w21.cell? ⟨gb228, 6, none⟩ = some (.int .i64 a0_6) := (blk_cell BK228.out 6).trans rfl
              have hcz28_7 : w21.cell? ⟨gb228, 7, none⟩ = some (.int .i64 a0_7) := (blk_cell BK228.out 7).trans rfl
              have hcz28_8 : w21.cell? ⟨gb228, 8, none⟩ = some (.int .i64 a0_8) := (blk_cell BK228.out 8).trans rfl
              have hcz28_9 : w21.cell? ⟨gb228, 9, none⟩ = some (.int .i64 a0_9) := (blk_cell BK228.out 9).trans rfl
              have hcz28_10 : w21.cell? ⟨gb228, 10, none⟩ = some (.int .i64 a0_10) := (blk_cell BK228.out 10).trans rfl
              have hcz28_11 : w21.cell? ⟨gb228, 11, none⟩ = some (.slice A0_11 l0_11.length c0_11) := (blk_cell BK228.out 11).trans rfl
              have hcz28_12 : w21.cell? ⟨gb228, 12, none⟩ = some (.slice A0_12 l0_12.length c0_12) := (blk_cell BK228.out 12).trans rfl
              have hfz28_0 := blk_frozen BK228.out 0
              have hfz28_1 := blk_frozen BK228.out 1
              have hfz28_2 := blk_frozen BK228.out 2
              have hfz28_3 := blk_frozen BK228.out 3
              have hfz28_4 := blk_frozen BK228.out 4
              have hfz28_5 := blk_frozen BK228.out 5
              have hfz28_6 := blk_frozen BK228.out 6
              have hfz28_7 := blk_frozen BK228.out 7
              have hfz28_8 := blk_frozen BK228.out 8
              have hfz28_9 := blk_frozen BK228.out 9
              have hfz28_10 := blk_frozen BK228.out 10
              have hfz28_11 := blk_frozen BK228.out 11
              have hfz28_12 := blk_frozen BK228.out 12
              go_wp2_with (first | (go_at_call 35; (with_reducible refine (class_About.calls k a0_0 a0_1 a0_2 a0_3 a0_4 a0_5 a0_6 a0_7 a0_8 a0_9 a0_10 _ _ l0_11 _ _ l0_12 t236 _ ?side1 ?side2 ?side3 ?side4 A25.out).mono ?_); (case side1 => repeat (first | exact (Kd.C_below HR0_11.out HB.out) | (with_reducible refine Kd.C_alloc ?_ _) | (with_reducible refine Kd.C_drewN ?_ _) | (with_reducible refine Kd.C_drew ?_))); (case side2 => exact HC0_11.out); (case side3 => repeat (first | exact (Kd.C_below HR0_12.out HB.out) | (with_reducible refine Kd.C_alloc ?_ _) | (with_reducible refine Kd.C_drewN ?_ _) | (with_reducible refine Kd.C_drew ?_))); (case side4 => exact HC0_12.out); rintro e w29 ⟨rfl, hb⟩; have n0_ := Aside0.mk (blk_below (g := gb228) (o := .cells #[.int .i64 a0_0, .int .i64 a0_1, .int .i64 a0_2, .int .i64 a0_3, .int .i64 a0_4, .int .i64 a0_5, .int .i64 a0_6, .int .i64 a0_7, .int .i64 a0_8, .int .i64 a0_9, .int .i64 a0_10, .slice A0_11 l0_11.length c0_11, .slice A0_12 l0_12.length c0_12] 42 (0, 0)) (by (with_reducible repeat (first | refine blk_drewN ?_ _ | refine blk_drew ?_ | refine blk_alloc ?_ _)); exact BK228.out) hb); have n1_ := Aside0.mk (below_step (by repeat (first | (with_reducible first | exact HB.out | apply below_alloc | apply pw_below_drewN | apply below_drew1 | refine below_set ?_ GE228.out) | exact HB.out)) hb); clear BK228; clear HB; have BK228 := n0_; have HB := n1_; clear n0_ n1_; (try clear hb); (try clear hb2); (try clear hk); (try clear hi); (try clear A25); have hcz30_0 : w29.cell? ⟨gb228, 0, none⟩ = some (.int .i64 a0_0) := (blk_cell BK228.out 0).trans rfl; have hcz30_1 : w29.cell? ⟨gb228, 1, none⟩ = some (.int .i64 a0_1) := (blk_cell BK228.out 1).trans rfl; have hcz30_2 : w29.cell? ⟨gb228, 2, none⟩ = some (.int .i64 a0_2) := (blk_cell BK228.out 2).trans rfl; have hcz30_3 : w29.cell? ⟨gb228, 3, none⟩ = some (.int .i64 a0_3) := (blk_cell BK228.out 3).trans rfl; have hcz30_4 : w29.cell? ⟨gb228, 4, none⟩ = some (.int .i64 a0_4) := (blk_cell BK228.out 4).trans rfl; have hcz30_5 : w29.cell? ⟨gb228, 5, none⟩ = some (.int .i64 a0_5) := (blk_cell BK228.out 5).trans rfl; have hcz30_6 : w29.cell? ⟨gb228, 6, none⟩ = some (.int .i64 a0_6) := (blk_cell BK228.out 6).trans rfl; have hcz30_7 : w29.cell? ⟨gb228, 7, none⟩ = some (.int .i64 a0_7) := (blk_cell BK228.out 7).trans rfl; have hcz30_8 : w29.cell? ⟨gb228, 8, none⟩ = some (.int .i64 a0_8) := (blk_cell BK228.out 8).trans rfl; have hcz30_9 : w29.cell? ⟨gb228, 9, none⟩ = some (.int .i64 a0_9) := (blk_cell BK228.out 9).trans rfl; have hcz30_10 : w29.cell? ⟨gb228, 10, none⟩ = some (.int .i64 a0_10) := (blk_cell BK228.out 10).trans rfl; have hcz30_11 : w29.cell? ⟨gb228, 11, none⟩ = some (.slice A0_11 l0_11.length c0_11) := (blk_cell BK228.out 11).trans rfl; have hcz30_12 : w29.cell? ⟨gb228, 12, none⟩ = some (.slice A0_12 l0_12.length c0_12) := (blk_cell BK228.out 12).trans rfl; have hfz30_0 := blk_frozen BK228.out 0; have hfz30_1 := blk_frozen BK228.out 1; have hfz30_2 := blk_frozen BK228.out 2; have hfz30_3 := blk_frozen BK228.out 3; have hfz30_4 := blk_frozen BK228.out 4; have hfz30_5 := blk_frozen BK228.out 5; have hfz30_6 := blk_frozen BK228.out 6; have hfz30_7 := blk_frozen BK228.out 7; have hfz30_8 := blk_frozen BK228.out 8; have hfz30_9 := blk_frozen BK228.out 9; have hfz30_10 := blk_frozen BK228.out 10; have hfz30_11 := blk_frozen BK228.out 11; have hfz30_12 := blk_frozen BK228.out 12) | (go_at_call 37; (with_reducible refine (class_Foreign.calls k a0_0 a0_1 a0_2 a0_3 a0_4 a0_5 a0_6 a0_7 a0_8 a0_9 a0_10 _ _ l0_11 _ _ l0_12 t232 t237 _ ?side1 ?side2 ?side3 ?side4 A27.out).mono ?_); (case side1 => repeat (first | exact (Kd.C_below HR0_11.out HB.out) | (with_reducible refine Kd.C_alloc ?_ _) | (with_reducible refine Kd.C_drewN ?_ _) | (with_reducible refine Kd.C_drew ?_))); (case side2 => exact HC0_11.out); (case side3 => repeat (first | exact (Kd.C_below HR0_12.out HB.out) | (with_reducible refine Kd.C_alloc ?_ _) | (with_reducible refine Kd.C_drewN ?_ _) | (with_reducible refine Kd.C_drew ?_))); (case side4 => exact HC0_12.out); rintro e w31 ⟨rfl, hb⟩; have n0_ := Aside0.mk (blk_below (g := gb228) (o := .cells #[.int .i64 a0_0, .int .i64 a0_1, .int .i64 a0_2, .int .i64 a0_3, .int .i64 a0_4, .int .i64 a0_5, .int .i64 a0_6, .int .i64 a0_7, .int .i64 a0_8, .int .i64 a0_9, .int .i64 a0_10, .slice A0_11 l0_11.length c0_11, .slice A0_12 l0_12.length c0_12] 42 (0, 0)) (by (with_reducible repeat (first | refine blk_drewN ?_ _ | refine blk_drew ?_ | refine blk_alloc ?_ _)); exact BK228.out) hb); have n1_ := Aside0.mk (below_step (by repeat (first | (with_reducible first | exact HB.out | apply below_alloc | apply pw_below_drewN | apply below_drew1 | refine below_set ?_ GE228.out) | exact HB.out)) hb); clear BK228; clear HB; have BK228 := n0_; have HB := n1_; clear n0_ n1_; (try clear hb); (try clear hb2); (try clear hk); (try clear hi); (try clear A27)))
              go_meet
              case rel => exact ⟨_, (t237), (by first | rfl | (simp; done) | (simp [*]; done)), H', ⟨by first | omega | exact Nat.le_refl _⟩, ⟨by (with_reducible repeat (first | refine blk_drewN ?_ _ | refine blk_drew ?_ | refine blk_alloc ?_ _)); exact BK228.out⟩, ⟨by repeat (first | (with_reducible first | exact HB.out | apply below_alloc | apply pw_below_drewN | apply below_drew1 | refine below_set ?_ GE228.out) | exact HB.out)⟩⟩
            · rw [if_neg c26] at H
              have c26b0 : (t236 == t234) = false := beq_eq_false_iff_ne.mpr c26
              have c26b1 : (t236 != t234) = true := bne_iff_ne.mpr c26
              have H' := Aside0.mk H
              clear H
              have hcz32_0 : w21.cell? ⟨gb228, 0, none⟩ = some (.int .i64 a0_0) := (blk_cell BK228.out 0).trans rfl
              have hcz32_1 : w21.cell? ⟨gb228, 1, none⟩ = some (.int .i64 a0_1) := (blk_cell BK228.out 1).trans rfl
              have hcz32_2 : w21.cell? ⟨gb228, 2, none⟩ = some (.int .i64 a0_2) := (blk_cell BK228.out 2).trans rfl
              have hcz32_3 : w21.cell? ⟨gb228, 3, none⟩ = some (.int .i64 a0_3) := (blk_cell BK228.out 3).trans rfl
              have hcz32_4 : w21.cell? ⟨gb228, 4, none⟩ = some (.int .i64 a0_4) := (blk_cell BK228.out 4).trans rfl
              have hcz32_5 : w21.cell? ⟨gb228, 5, none⟩ = some (.int .i64 a0_5) := (blk_cell BK228.out 5).trans rfl
              have hcz32_6 : w21.cell? ⟨gb228, 6, none⟩ = some (.int .i64 a0_6) := (blk_cell BK228.out 6).trans rfl
              have hcz32_7 : w21.cell? ⟨gb228, 7, none⟩ = some (.int .i64 a0_7) := (blk_cell BK228.out 7).trans rfl
              have hcz32_8 : w21.cell? ⟨gb228, 8, none⟩ = some (.int .i64 a0_8) := (blk_cell BK228.out 8).trans rfl
              have hcz32_9 : w21.cell? ⟨gb228, 9, none⟩ = some (.int .i64 a0_9) := (blk_cell BK228.out 9).trans rfl
              have hcz32_10 : w21.cell? ⟨gb228, 10, none⟩ = some (.int .i64 a0_10) := (blk_cell BK228.out 10).trans rfl
              have hcz32_11 : w21.cell? ⟨gb228, 11, none⟩ = some (.slice A0_11 l0_11.length c0_11) := (blk_cell BK228.out 11).trans rfl
              have hcz32_12 : w21.cell? ⟨gb228, 12, none⟩ = some (.slice A0_12 l0_12.length c0_12) := (blk_cell BK228.out 12).trans rfl
              have hfz32_0 := blk_frozen BK228.out 0
              have hfz32_1 := blk_frozen BK228.out 1
              have hfz32_2 := blk_frozen BK228.out 2
              have hfz32_3 := blk_frozen BK228.out 3
              have hfz32_4 := blk_frozen BK228.out 4
              have hfz32_5 := blk_frozen BK228.out 5
              have hfz32_6 := blk_frozen BK228.out 6
              have hfz32_7 := blk_frozen BK228.out 7
              have hfz32_8 := blk_frozen BK228.out 8
              have hfz32_9 := blk_frozen BK228.out 9
              have hfz32_10 := blk_frozen BK228.out 10
              have hfz32_11 := blk_frozen BK228.out 11
              have hfz32_12 := blk_frozen BK228.out 12
              go_wp2_with (first | (go_at_call 35; (with_reducible refine (class_About.calls k a0_0 a0_1 a0_2 a0_3 a0_4 a0_5 a0_6 a0_7 a0_8 a0_9 a0_10 _ _ l0_11 _ _ l0_12 t236 _ ?side1 ?side2 ?side3 ?side4 A25.out).mono ?_); (case side1 => repeat (first | exact (Kd.C_below HR0_11.out HB.out) | (with_reducible refine Kd.C_alloc ?_ _) | (with_reducible refine Kd.C_drewN ?_ _) | (with_reducible refine Kd.C_drew ?_))); (case side2 => exact HC0_11.out); (case side3 => repeat (first | exact (Kd.C_below HR0_12.out HB.out) | (with_reducible refine Kd.C_alloc ?_ _) | (with_reducible refine Kd.C_drewN ?_ _) | (with_reducible refine Kd.C_drew ?_))); (case side4 => exact HC0_12.out); rintro e w33 ⟨rfl, hb⟩; have n0_ := Aside0.mk (blk_below (g := gb228) (o := .cells #[.int .i64 a0_0, .int .i64 a0_1, .int .i64 a0_2, .int .i64 a0_3, .int .i64 a0_4, .int .i64 a0_5, .int .i64 a0_6, .int .i64 a0_7, .int .i64 a0_8, .int .i64 a0_9, .int .i64 a0_10, .slice A0_11 l0_11.length c0_11, .slice A0_12 l0_12.length c0_12] 42 (0, 0)) (by (with_reducible repeat (first | refine blk_drewN ?_ _ | refine blk_drew ?_ | refine blk_alloc ?_ _)); exact BK228.out) hb); have n1_ := Aside0.mk (below_step (by repeat (first | (with_reducible first | exact HB.out | apply below_alloc | apply pw_below_drewN | apply below_drew1 | refine below_set ?_ GE228.out) | exact HB.out)) hb); clear BK228; clear HB; have BK228 := n0_; have HB := n1_; clear n0_ n1_; (try clear hb); (try clear hb2); (try clear hk); (try clear hi); (try clear A25)))
              go_meet
              case rel => exact ⟨_, (true), (by first | rfl | (simp; done) | (simp [*]; done)), H', ⟨by first | omega | exact Nat.le_refl _⟩, ⟨by (with_reducible repeat (first | refine blk_drewN ?_ _ | refine blk_drew ?_ | refine blk_alloc ?_ _)); exact BK228.out⟩, ⟨by repeat (first | (with_reducible first | exact HB.out | apply below_alloc | apply pw_below_drewN | apply below_drew1 | refine below_set ?_ GE228.out) | exact HB.out)⟩⟩
          · replace c24 := Bool.eq_false_iff.mpr c24
            subst c24
            have H1 : (boarderlaw16_ClassSays.j0 k a1 t231 true a0_0 a0_1 a0_2 a0_3 a0_4 a0_5 a0_6 a0_7 a0_8 a0_9 a0_10 l0_11 l0_12) = some r := by rw [if_neg (show ¬ (false = true) by decide)] at H; exact H
            clear H
            have H := H1
            clear H1
            have H' := Aside0.mk H
            clear H
            go_wp2
            go_meet
            case rel => exact ⟨_, (true), (by first | rfl | (simp; done) | (simp [*]; done)), H', ⟨by first | omega | exact Nat.le_refl _⟩, ⟨by (with_reducible repeat (first | refine blk_drewN ?_ _ | refine blk_drew ?_ | refine blk_alloc ?_ _)); exact BK228.out⟩, ⟨by repeat (first | (with_reducible first | exact HB.out | apply below_alloc | apply pw_below_drewN | apply below_drew1 | refine below_set ?_ GE228.out) | exact HB.out)⟩⟩
        · replace c23 := Bool.eq_false_iff.mpr c23
          subst c23
          have H1 : (boarderlaw16_ClassSays.j0 k a1 t231 true a0_0 a0_1 a0_2 a0_3 a0_4 a0_5 a0_6 a0_7 a0_8 a0_9 a0_10 l0_11 l0_12) = some r := by rw [if_neg (show ¬ (false = true) by decide)] at H; exact H
          clear H
          have H := H1
          clear H1
          have H' := Aside0.mk H
          clear H
          go_wp2
          go_meet
          case rel => exact ⟨_, (true), (by first | rfl | (simp; done) | (simp [*]; done)), H', ⟨by first | omega | exact Nat.le_refl _⟩, ⟨by (with_reducible repeat (first | refine blk_drewN ?_ _ | refine blk_drew ?_ | refine blk_alloc ?_ _)); exact BK228.out⟩, ⟨by repeat (first | (with_reducible first | exact HB.out | apply below_alloc | apply pw_below_drewN | apply below_drew1 | refine below_set ?_ GE228.out) | exact HB.out)⟩⟩
      · rw [if_neg c22] at H
        have c22b0 : (t231 == 1) = false := beq_eq_false_iff_ne.mpr c22
        have c22b1 : (t231 != 1) = true := bne_iff_ne.mpr c22
        (first | rw [c22b0] | (simp only [i64_w, i32_w]; rw [c22b0]) | skip)
        have H' := Aside0.mk H
        clear H
        go_wp2
        go_meet
        case rel => exact ⟨_, (false), (by first | rfl | (simp; done) | (simp [*]; done)), H', ⟨by first | omega | exact Nat.le_refl _⟩, ⟨by (with_reducible repeat (first | refine blk_drewN ?_ _ | refine blk_drew ?_ | refine blk_alloc ?_ _)); exact BK228.out⟩, ⟨by repeat (first | (with_reducible first | exact HB.out | apply below_alloc | apply pw_below_drewN | apply below_drew1 | refine below_set ?_ GE228.out) | exact HB.out)⟩⟩
    case rest =>
      clear HC14
      try clear c2
      try clear p2
      try clear c3
      try clear c7
      try clear c9
      try clear c22
      try clear c22b0
      try clear c22b1
      try clear c23
      try clear c24
      try clear c26
      try clear c26b0
      try clear c26b1
      try clear c31
      try clear c33
      try clear hcz16_0
      try clear hcz16_1
      try clear hcz16_10
      try clear hcz16_11
      try clear hcz16_12
      try clear hcz16_2
      try clear hcz16_3
      try clear hcz16_4
      try clear hcz16_5
      try clear hcz16_6
      try clear hcz16_7
      try clear hcz16_8
      try clear hcz16_9
      try clear hcz18_0
      try clear hcz18_1
      try clear hcz18_10
      try clear hcz18_11
      try clear hcz18_12
      try clear hcz18_2
      try clear hcz18_3
      try clear hcz18_4
      try clear hcz18_5
      try clear hcz18_6
      try clear hcz18_7
      try clear hcz18_8
      try clear hcz18_9
      try clear hcz20_0
      try clear hcz20_1
      try clear hcz20_10
      try clear hcz20_11
      try clear hcz20_12
      try clear hcz20_2
      try clear hcz20_3
      try clear hcz20_4
      try clear hcz20_5
      try clear hcz20_6
      try clear hcz20_7
      try clear hcz20_8
      try clear hcz20_9
      try clear hcz28_0
      try clear hcz28_1
      try clear hcz28_10
      try clear hcz28_11
      try clear hcz28_12
      try clear hcz28_2
      try clear hcz28_3
      try clear hcz28_4
      try clear hcz28_5
      try clear hcz28_6
      try clear hcz28_7
      try clear hcz28_8
      try clear hcz28_9
      try clear hcz30_0
      try clear hcz30_1
      try clear hcz30_10
      try clear hcz30_11
      try clear hcz30_12
      try clear hcz30_2
      try clear hcz30_3
      try clear hcz30_4
      try clear hcz30_5
      try clear hcz30_6
      try clear hcz30_7
      try clear hcz30_8
      try clear hcz30_9
      try clear hcz32_0
      try clear hcz32_1
      try clear hcz32_10
      try clear hcz32_11
      try clear hcz32_12
      try clear hcz32_2
      try clear hcz32_3
      try clear hcz32_4
      try clear hcz32_5
      try clear hcz32_6
      try clear hcz32_7
      try clear hcz32_8
      try clear hcz32_9
      try clear hcz6_0
      try clear hcz6_1
      try clear hcz6_10
      try clear hcz6_11
      try clear hcz6_12
      try clear hcz6_2
      try clear hcz6_3
      try clear hcz6_4
      try clear hcz6_5
      try clear hcz6_6
      try clear hcz6_7
      try clear hcz6_8
      try clear hcz6_9
      try clear hfz16_0
      try clear hfz16_1
      try clear hfz16_10
      try clear hfz16_11
      try clear hfz16_12
      try clear hfz16_2
      try clear hfz16_3
      try clear hfz16_4
      try clear hfz16_5
      try clear hfz16_6
      try clear hfz16_7
      try clear hfz16_8
      try clear hfz16_9
      try clear hfz18_0
      try clear hfz18_1
      try clear hfz18_10
      try clear hfz18_11
      try clear hfz18_12
      try clear hfz18_2
      try clear hfz18_3
      try clear hfz18_4
      try clear hfz18_5
      try clear hfz18_6
      try clear hfz18_7
      try clear hfz18_8
      try clear hfz18_9
      try clear hfz20_0
      try clear hfz20_1
      try clear hfz20_10
      try clear hfz20_11
      try clear hfz20_12
      try clear hfz20_2
      try clear hfz20_3
      try clear hfz20_4
      try clear hfz20_5
      try clear hfz20_6
      try clear hfz20_7
      try clear hfz20_8
      try clear hfz20_9
      try clear hfz28_0
      try clear hfz28_1
      try clear hfz28_10
      try clear hfz28_11
      try clear hfz28_12
      try clear hfz28_2
      try clear hfz28_3
      try clear hfz28_4
      try clear hfz28_5
      try clear hfz28_6
      try clear hfz28_7
      try clear hfz28_8
      try clear hfz28_9
      try clear hfz30_0
      try clear hfz30_1
      try clear hfz30_10
      try clear hfz30_11
      try clear hfz30_12
      try clear hfz30_2
      try clear hfz30_3
      try clear hfz30_4
      try clear hfz30_5
      try clear hfz30_6
      try clear hfz30_7
      try clear hfz30_8
      try clear hfz30_9
      try clear hfz32_0
      try clear hfz32_1
      try clear hfz32_10
      try clear hfz32_11
      try clear hfz32_12
      try clear hfz32_2
      try clear hfz32_3
      try clear hfz32_4
      try clear hfz32_5
      try clear hfz32_6
      try clear hfz32_7
      try clear hfz32_8
      try clear hfz32_9
      try clear hfz6_0
      try clear hfz6_1
      try clear hfz6_10
      try clear hfz6_11
      try clear hfz6_12
      try clear hfz6_2
      try clear hfz6_3
      try clear hfz6_4
      try clear hfz6_5
      try clear hfz6_6
      try clear hfz6_7
      try clear hfz6_8
      try clear hfz6_9
      obtain ⟨kq, x47_13, rfl, HA, HJ13, BK228, HB⟩ := hcut
      cases kq with
      | zero => exact absurd HA.out (by simp [boarderlaw16_ClassSays.j0])
      | succ kj13 =>
        have H := HA.out
        clear HA
        simp only [boarderlaw16_ClassSays.j0] at H
        by_cases c34 : x47_13 = true
        · subst c34
          have H1 : (some false) = some r := by rw [if_pos rfl] at H; exact H
          clear H
          have H := H1
          clear H1
          obtain rfl := Option.some.inj H
          go_wp2
          go_ret
          exact ⟨by first | rfl | (simp [errW_none, errW_some] <;> rfl) | (simp [*, errW_none, errW_some] <;> rfl), by repeat (first | (with_reducible first | exact HB.out | apply below_alloc | apply pw_below_drewN | apply below_drew1 | refine below_set ?_ GE228.out) | exact HB.out)⟩
        · replace c34 := Bool.eq_false_iff.mpr c34
          subst c34
          have H1 : ((class_Foreign.f kj13 a0_0 a0_1 a0_2 a0_3 a0_4 a0_5 a0_6 a0_7 a0_8 a0_9 a0_10 l0_11 l0_12 a1).bind fun t238 => (if t238 = true then (if t231 = 2 then (boarderlaw16_ClassSays.j1 kj13 t231 true a0_0 a0_1 a0_2 a0_3 a0_4 a0_5 a0_6 a0_7 a0_8 a0_9 a0_10 l0_11 l0_12) else (boarderlaw16_ClassSays.j1 kj13 t231 (t231 == 3) a0_0 a0_1 a0_2 a0_3 a0_4 a0_5 a0_6 a0_7 a0_8 a0_9 a0_10 l0_11 l0_12)) else (boarderlaw16_ClassSays.j1 kj13 t231 false a0_0 a0_1 a0_2 a0_3 a0_4 a0_5 a0_6 a0_7 a0_8 a0_9 a0_10 l0_11 l0_12))) = some r := by rw [if_neg (show ¬ (false = true) by decide)] at H; exact H
          clear H
          have H := H1
          clear H1
          have HC35 := Aside0.mk H
          clear H
          go_upto_region 8 with (fail)
          go_cut [58] (fun v58 wc => ∃ (kq : Nat) (x58_34 : Bool), v58 = .bool x58_34 ∧ Aside0 (boarderlaw16_ClassSays.j1 kq t231 x58_34 a0_0 a0_1 a0_2 a0_3 a0_4 a0_5 a0_6 a0_7 a0_8 a0_9 a0_10 l0_11 l0_12 = some r) ∧ Aside0 (kq ≤ kj13) ∧ Aside0 (wc.heap[gb228]? = some (.cells #[.int .i64 a0_0, .int .i64 a0_1, .int .i64 a0_2, .int .i64 a0_3, .int .i64 a0_4, .int .i64 a0_5, .int .i64 a0_6, .int .i64 a0_7, .int .i64 a0_8, .int .i64 a0_9, .int .i64 a0_10, (.slice A0_11 l0_11.length c0_11), (.slice A0_12 l0_12.length c0_12)] 42 (0, 0))) ∧ Aside0 (Below w.heap.size w wc))
          case first =>
            have H := HC35.out
            clear HC35
            replace H := Option.bind_eq_some_iff.mp H
            obtain ⟨t238, A360, H⟩ := H
            replace H : (if t238 = true then (if t231 = 2 then (boarderlaw16_ClassSays.j1 kj13 t231 true a0_0 a0_1 a0_2 a0_3 a0_4 a0_5 a0_6 a0_7 a0_8 a0_9 a0_10 l0_11 l0_12) else (boarderlaw16_ClassSays.j1 kj13 t231 (t231 == 3) a0_0 a0_1 a0_2 a0_3 a0_4 a0_5 a0_6 a0_7 a0_8 a0_9 a0_10 l0_11 l0_12)) else (boarderlaw16_ClassSays.j1 kj13 t231 false a0_0 a0_1 a0_2 a0_3 a0_4 a0_5 a0_6 a0_7 a0_8 a0_9 a0_10 l0_11 l0_12)) = some r := H
            have A36 := Aside0.mk A360
            clear A360
            by_cases c37 : t238 = true
            · subst c37
              have H1 : (if t231 = 2 then (boarderlaw16_ClassSays.j1 kj13 t231 true a0_0 a0_1 a0_2 a0_3 a0_4 a0_5 a0_6 a0_7 a0_8 a0_9 a0_10 l0_11 l0_12) else (boarderlaw16_ClassSays.j1 kj13 t231 (t231 == 3) a0_0 a0_1 a0_2 a0_3 a0_4 a0_5 a0_6 a0_7 a0_8 a0_9 a0_10 l0_11 l0_12)) = some r := by rw [if_pos rfl] at H; exact H
              clear H
              have H := H1
              clear H1
              by_cases c38 : t231 = 2
              · rw [if_pos c38] at H
                have c38b0 : (t231 == 2) = true := beq_iff_eq.mpr c38
                have c38b1 : (t231 != 2) = false := bne_eq_false_iff_eq.mpr c38
                clear c38
                (first | rw [c38b0] | (simp only [i64_w, i32_w]; rw [c38b0]) | skip)
                have H' := Aside0.mk H
                clear H
                have hcz39_0 : wc.cell? ⟨gb228, 0, none⟩ = some (.int .i64 a0_0) := (blk_cell BK228.out 0).trans rfl
                have hcz39_1 : wc.cell? ⟨gb228, 1, none⟩ = some (.int .i64 a0_1) := (blk_cell BK228.out 1).trans rfl
                have hcz39_2 : wc.cell? ⟨gb228, 2, none⟩ = some (.int .i64 a0_2) := (blk_cell BK228.out 2).trans rfl
                have hcz39_3 : wc.cell? ⟨gb228, 3, none⟩ = some (.int .i64 a0_3) := (blk_cell BK228.out 3).trans rfl
                have hcz39_4 : wc.cell? ⟨gb228, 4, none⟩ = some (.int .i64 a0_4) := (blk_cell BK228.out 4).trans rfl
                have hcz39_5 : wc.cell? ⟨gb228, 5, none⟩ = some (.int .i64 a0_5) := (blk_cell BK228.out 5).trans rfl
                have hcz39_6 : wc.cell? ⟨gb228, 6, none⟩ = some (.int .i64 a0_6) := (blk_cell BK228.out 6).trans rfl
                have hcz39_7 : wc.cell? ⟨gb228, 7, none⟩ = some (.int .i64 a0_7) := (blk_cell BK228.out 7).trans rfl
                have hcz39_8 : wc.cell? ⟨gb228, 8, none⟩ = some (.int .i64 a0_8) := (blk_cell BK228.out 8).trans rfl
                have hcz39_9 : wc.cell? ⟨gb228, 9, none⟩ = some (.int .i64 a0_9) := (blk_cell BK228.out 9).trans rfl
                have hcz39_10 : wc.cell? ⟨gb228, 10, none⟩ = some (.int .i64 a0_10) := (blk_cell BK228.out 10).trans rfl
                have hcz39_11 : wc.cell? ⟨gb228, 11, none⟩ = some (.slice A0_11 l0_11.length c0_11) := (blk_cell BK228.out 11).trans rfl
                have hcz39_12 : wc.cell? ⟨gb228, 12, none⟩ = some (.slice A0_12 l0_12.length c0_12) := (blk_cell BK228.out 12).trans rfl
                have hfz39_0 := blk_frozen BK228.out 0
                have hfz39_1 := blk_frozen BK228.out 1
                have hfz39_2 := blk_frozen BK228.out 2
                have hfz39_3 := blk_frozen BK228.out 3
                have hfz39_4 := blk_frozen BK228.out 4
                have hfz39_5 := blk_frozen BK228.out 5
                have hfz39_6 := blk_frozen BK228.out 6
                have hfz39_7 := blk_frozen BK228.out 7
                have hfz39_8 := blk_frozen BK228.out 8
                have hfz39_9 := blk_frozen BK228.out 9
                have hfz39_10 := blk_frozen BK228.out 10
                have hfz39_11 := blk_frozen BK228.out 11
                have hfz39_12 := blk_frozen BK228.out 12
                go_wp2_with (first | ((with_reducible refine gate_callee (f := 37) rfl ?_); refine goesL_ (some 50) rfl rfl Try.func37 (by kernel_rfl) rfl #[.agg #[.int .i64 a0_0, .int .i64 a0_1, .int .i64 a0_2, .int .i64 a0_3, .int .i64 a0_4, .int .i64 a0_5, .int .i64 a0_6, .int .i64 a0_7, .int .i64 a0_8, .int .i64 a0_9, .int .i64 a0_10, .slice A0_11 l0_11.length c0_11, .slice A0_12 l0_12.length c0_12], .int .i64 a1] rfl (by (try simp only [List.map_toArray, List.map_cons, List.map_nil]); first | done | rfl | (simp only [List.length_drop, List.length_take]; rfl)) ?_; (with_reducible refine (class_Foreign.calls kj13 a0_0 a0_1 a0_2 a0_3 a0_4 a0_5 a0_6 a0_7 a0_8 a0_9 a0_10 _ _ l0_11 _ _ l0_12 a1 true _ ?side1 ?side2 ?side3 ?side4 A36.out).mono ?_); (case side1 => repeat (first | exact (Kd.C_below HR0_11.out HB.out) | (with_reducible refine Kd.C_alloc ?_ _) | (with_reducible refine Kd.C_drewN ?_ _) | (with_reducible refine Kd.C_drew ?_))); (case side2 => exact HC0_11.out); (case side3 => repeat (first | exact (Kd.C_below HR0_12.out HB.out) | (with_reducible refine Kd.C_alloc ?_ _) | (with_reducible refine Kd.C_drewN ?_ _) | (with_reducible refine Kd.C_drew ?_))); (case side4 => exact HC0_12.out); rintro e w40 ⟨rfl, hb⟩; refine ⟨_, rfl, ?_⟩; have n0_ := Aside0.mk (blk_below (g := gb228) (o := .cells #[.int .i64 a0_0, .int .i64 a0_1, .int .i64 a0_2, .int .i64 a0_3, .int .i64 a0_4, .int .i64 a0_5, .int .i64 a0_6, .int .i64 a0_7, .int .i64 a0_8, .int .i64 a0_9, .int .i64 a0_10, .slice A0_11 l0_11.length c0_11, .slice A0_12 l0_12.length c0_12] 42 (0, 0)) (by (with_reducible repeat (first | refine blk_drewN ?_ _ | refine blk_drew ?_ | refine blk_alloc ?_ _)); exact BK228.out) hb); have n1_ := Aside0.mk (below_step (by repeat (first | (with_reducible first | exact HB.out | apply below_alloc | apply pw_below_drewN | apply below_drew1 | refine below_set ?_ GE228.out) | exact HB.out)) hb); clear BK228; clear HB; have BK228 := n0_; have HB := n1_; clear n0_ n1_; (try clear hb); (try clear hb2); (try clear hk); (try clear hi); (try clear A36)))
                go_meet
                case rel => exact ⟨_, (true), (by first | rfl | (simp; done) | (simp [*]; done)), H', ⟨by have := HJ13.out; first | omega | exact Nat.le_refl _⟩, ⟨by (with_reducible repeat (first | refine blk_drewN ?_ _ | refine blk_drew ?_ | refine blk_alloc ?_ _)); exact BK228.out⟩, ⟨by repeat (first | (with_reducible first | exact HB.out | apply below_alloc | apply pw_below_drewN | apply below_drew1 | refine below_set ?_ GE228.out) | exact HB.out)⟩⟩
              · rw [if_neg c38] at H
                have c38b0 : (t231 == 2) = false := beq_eq_false_iff_ne.mpr c38
                have c38b1 : (t231 != 2) = true := bne_iff_ne.mpr c38
                (first | rw [c38b0] | (simp only [i64_w, i32_w]; rw [c38b0]) | skip)
                have H' := Aside0.mk H
                clear H
                have hcz41_0 : wc.cell? ⟨gb228, 0, none⟩ = some (.int .i64 a0_0) := (blk_cell BK228.out 0).trans rfl
                have hcz41_1 : wc.cell? ⟨gb228, 1, none⟩ = some (.int .i64 a0_1) := (blk_cell BK228.out 1).trans rfl
                have hcz41_2 : wc.cell? ⟨gb228, 2, none⟩ = some (.int .i64 a0_2) := (blk_cell BK228.out 2).trans rfl
                have hcz41_3 : wc.cell? ⟨gb228, 3, none⟩ = some (.int .i64 a0_3) := (blk_cell BK228.out 3).trans rfl
                have hcz41_4 : wc.cell? ⟨gb228, 4, none⟩ = some (.int .i64 a0_4) := (blk_cell BK228.out 4).trans rfl
                have hcz41_5 : wc.cell? ⟨gb228, 5, none⟩ = some (.int .i64 a0_5) := (blk_cell BK228.out 5).trans rfl
                have hcz41_6 : wc.cell? ⟨gb228, 6, none⟩ = some (.int .i64 a0_6) := (blk_cell BK228.out 6).trans rfl
                have hcz41_7 : wc.cell? ⟨gb228, 7, none⟩ = some (.int .i64 a0_7) := (blk_cell BK228.out 7).trans rfl
                have hcz41_8 : wc.cell? ⟨gb228, 8, none⟩ = some (.int .i64 a0_8) := (blk_cell BK228.out 8).trans rfl
                have hcz41_9 : wc.cell? ⟨gb228, 9, none⟩ = some (.int .i64 a0_9) := (blk_cell BK228.out 9).trans rfl
                have hcz41_10 : wc.cell? ⟨gb228, 10, none⟩ = some (.int .i64 a0_10) := (blk_cell BK228.out 10).trans rfl
                have hcz41_11 : wc.cell? ⟨gb228, 11, none⟩ = some (.slice A0_11 l0_11.length c0_11) := (blk_cell BK228.out 11).trans rfl
                have hcz41_12 : wc.cell? ⟨gb228, 12, none⟩ = some (.slice A0_12 l0_12.length c0_12) := (blk_cell BK228.out 12).trans rfl
                have hfz41_0 := blk_frozen BK228.out 0
                have hfz41_1 := blk_frozen BK228.out 1
                have hfz41_2 := blk_frozen BK228.out 2
                have hfz41_3 := blk_frozen BK228.out 3
                have hfz41_4 := blk_frozen BK228.out 4
                have hfz41_5 := blk_frozen BK228.out 5
                have hfz41_6 := blk_frozen BK228.out 6
                have hfz41_7 := blk_frozen BK228.out 7
                have hfz41_8 := blk_frozen BK228.out 8
                have hfz41_9 := blk_frozen BK228.out 9
                have hfz41_10 := blk_frozen BK228.out 10
                have hfz41_11 := blk_frozen BK228.out 11
                have hfz41_12 := blk_frozen BK228.out 12
                go_wp2_with (first | ((with_reducible refine gate_callee (f := 37) rfl ?_); refine goesL_ (some 50) rfl rfl Try.func37 (by kernel_rfl) rfl #[.agg #[.int .i64 a0_0, .int .i64 a0_1, .int .i64 a0_2, .int .i64 a0_3, .int .i64 a0_4, .int .i64 a0_5, .int .i64 a0_6, .int .i64 a0_7, .int .i64 a0_8, .int .i64 a0_9, .int .i64 a0_10, .slice A0_11 l0_11.length c0_11, .slice A0_12 l0_12.length c0_12], .int .i64 a1] rfl (by (try simp only [List.map_toArray, List.map_cons, List.map_nil]); first | done | rfl | (simp only [List.length_drop, List.length_take]; rfl)) ?_; (with_reducible refine (class_Foreign.calls kj13 a0_0 a0_1 a0_2 a0_3 a0_4 a0_5 a0_6 a0_7 a0_8 a0_9 a0_10 _ _ l0_11 _ _ l0_12 a1 true _ ?side1 ?side2 ?side3 ?side4 A36.out).mono ?_); (case side1 => repeat (first | exact (Kd.C_below HR0_11.out HB.out) | (with_reducible refine Kd.C_alloc ?_ _) | (with_reducible refine Kd.C_drewN ?_ _) | (with_reducible refine Kd.C_drew ?_))); (case side2 => exact HC0_11.out); (case side3 => repeat (first | exact (Kd.C_below HR0_12.out HB.out) | (with_reducible refine Kd.C_alloc ?_ _) | (with_reducible refine Kd.C_drewN ?_ _) | (with_reducible refine Kd.C_drew ?_))); (case side4 => exact HC0_12.out); rintro e w42 ⟨rfl, hb⟩; refine ⟨_, rfl, ?_⟩; have n0_ := Aside0.mk (blk_below (g := gb228) (o := .cells #[.int .i64 a0_0, .int .i64 a0_1, .int .i64 a0_2, .int .i64 a0_3, .int .i64 a0_4, .int .i64 a0_5, .int .i64 a0_6, .int .i64 a0_7, .int .i64 a0_8, .int .i64 a0_9, .int .i64 a0_10, .slice A0_11 l0_11.length c0_11, .slice A0_12 l0_12.length c0_12] 42 (0, 0)) (by (with_reducible repeat (first | refine blk_drewN ?_ _ | refine blk_drew ?_ | refine blk_alloc ?_ _)); exact BK228.out) hb); have n1_ := Aside0.mk (below_step (by repeat (first | (with_reducible first | exact HB.out | apply below_alloc | apply pw_below_drewN | apply below_drew1 | refine below_set ?_ GE228.out) | exact HB.out)) hb); clear BK228; clear HB; have BK228 := n0_; have HB := n1_; clear n0_ n1_; (try clear hb); (try clear hb2); (try clear hk); (try clear hi); (try clear A36)))
                go_meet
                case rel => exact ⟨_, ((t231 == 3)), (by first | rfl | (simp; done) | (simp [*]; done)), H', ⟨by have := HJ13.out; first | omega | exact Nat.le_refl _⟩, ⟨by (with_reducible repeat (first | refine blk_drewN ?_ _ | refine blk_drew ?_ | refine blk_alloc ?_ _)); exact BK228.out⟩, ⟨by repeat (first | (with_reducible first | exact HB.out | apply below_alloc | apply pw_below_drewN | apply below_drew1 | refine below_set ?_ GE228.out) | exact HB.out)⟩⟩
            · replace c37 := Bool.eq_false_iff.mpr c37
              subst c37
              have H1 : (boarderlaw16_ClassSays.j1 kj13 t231 false a0_0 a0_1 a0_2 a0_3 a0_4 a0_5 a0_6 a0_7 a0_8 a0_9 a0_10 l0_11 l0_12) = some r := by rw [if_neg (show ¬ (false = true) by decide)] at H; exact H
              clear H
              have H := H1
              clear H1
              have H' := Aside0.mk H
              clear H
              have hcz43_0 : wc.cell? ⟨gb228, 0, none⟩ = some (.int .i64 a0_0) := (blk_cell BK228.out 0).trans rfl
              have hcz43_1 : wc.cell? ⟨gb228, 1, none⟩ = some (.int .i64 a0_1) := (blk_cell BK228.out 1).trans rfl
              have hcz43_2 : wc.cell? ⟨gb228, 2, none⟩ = some (.int .i64 a0_2) := (blk_cell BK228.out 2).trans rfl
              have hcz43_3 : wc.cell? ⟨gb228, 3, none⟩ = some (.int .i64 a0_3) := (blk_cell BK228.out 3).trans rfl
              have hcz43_4 : wc.cell? ⟨gb228, 4, none⟩ = some (.int .i64 a0_4) := (blk_cell BK228.out 4).trans rfl
              have hcz43_5 : wc.cell? ⟨gb228, 5, none⟩ = some (.int .i64 a0_5) := (blk_cell BK228.out 5).trans rfl
              have hcz43_6 : wc.cell? ⟨gb228, 6, none⟩ = some (.int .i64 a0_6) := (blk_cell BK228.out 6).trans rfl
              have hcz43_7 : wc.cell? ⟨gb228, 7, none⟩ = some (.int .i64 a0_7) := (blk_cell BK228.out 7).trans rfl
              have hcz43_8 : wc.cell? ⟨gb228, 8, none⟩ = some (.int .i64 a0_8) := (blk_cell BK228.out 8).trans rfl
              have hcz43_9 : wc.cell? ⟨gb228, 9, none⟩ = some (.int .i64 a0_9) := (blk_cell BK228.out 9).trans rfl
              have hcz43_10 : wc.cell? ⟨gb228, 10, none⟩ = some (.int .i64 a0_10) := (blk_cell BK228.out 10).trans rfl
              have hcz43_11 : wc.cell? ⟨gb228, 11, none⟩ = some (.slice A0_11 l0_11.length c0_11) := (blk_cell BK228.out 11).trans rfl
              have hcz43_12 : wc.cell? ⟨gb228, 12, none⟩ = some (.slice A0_12 l0_12.length c0_12) := (blk_cell BK228.out 12).trans rfl
              have hfz43_0 := blk_frozen BK228.out 0
              have hfz43_1 := blk_frozen BK228.out 1
              have hfz43_2 := blk_frozen BK228.out 2
              have hfz43_3 := blk_frozen BK228.out 3
              have hfz43_4 := blk_frozen BK228.out 4
              have hfz43_5 := blk_frozen BK228.out 5
              have hfz43_6 := blk_frozen BK228.out 6
              have hfz43_7 := blk_frozen BK228.out 7
              have hfz43_8 := blk_frozen BK228.out 8
              have hfz43_9 := blk_frozen BK228.out 9
              have hfz43_10 := blk_frozen BK228.out 10
              have hfz43_11 := blk_frozen BK228.out 11
              have hfz43_12 := blk_frozen BK228.out 12
              go_wp2_with (first | ((with_reducible refine gate_callee (f := 37) rfl ?_); refine goesL_ (some 50) rfl rfl Try.func37 (by kernel_rfl) rfl #[.agg #[.int .i64 a0_0, .int .i64 a0_1, .int .i64 a0_2, .int .i64 a0_3, .int .i64 a0_4, .int .i64 a0_5, .int .i64 a0_6, .int .i64 a0_7, .int .i64 a0_8, .int .i64 a0_9, .int .i64 a0_10, .slice A0_11 l0_11.length c0_11, .slice A0_12 l0_12.length c0_12], .int .i64 a1] rfl (by (try simp only [List.map_toArray, List.map_cons, List.map_nil]); first | done | rfl | (simp only [List.length_drop, List.length_take]; rfl)) ?_; (with_reducible refine (class_Foreign.calls kj13 a0_0 a0_1 a0_2 a0_3 a0_4 a0_5 a0_6 a0_7 a0_8 a0_9 a0_10 _ _ l0_11 _ _ l0_12 a1 false _ ?side1 ?side2 ?side3 ?side4 A36.out).mono ?_); (case side1 => repeat (first | exact (Kd.C_below HR0_11.out HB.out) | (with_reducible refine Kd.C_alloc ?_ _) | (with_reducible refine Kd.C_drewN ?_ _) | (with_reducible refine Kd.C_drew ?_))); (case side2 => exact HC0_11.out); (case side3 => repeat (first | exact (Kd.C_below HR0_12.out HB.out) | (with_reducible refine Kd.C_alloc ?_ _) | (with_reducible refine Kd.C_drewN ?_ _) | (with_reducible refine Kd.C_drew ?_))); (case side4 => exact HC0_12.out); rintro e w44 ⟨rfl, hb⟩; refine ⟨_, rfl, ?_⟩; have n0_ := Aside0.mk (blk_below (g := gb228) (o := .cells #[.int .i64 a0_0, .int .i64 a0_1, .int .i64 a0_2, .int .i64 a0_3, .int .i64 a0_4, .int .i64 a0_5, .int .i64 a0_6, .int .i64 a0_7, .int .i64 a0_8, .int .i64 a0_9, .int .i64 a0_10, .slice A0_11 l0_11.length c0_11, .slice A0_12 l0_12.length c0_12] 42 (0, 0)) (by (with_reducible repeat (first | refine blk_drewN ?_ _ | refine blk_drew ?_ | refine blk_alloc ?_ _)); exact BK228.out) hb); have n1_ := Aside0.mk (below_step (by repeat (first | (with_reducible first | exact HB.out | apply below_alloc | apply pw_below_drewN | apply below_drew1 | refine below_set ?_ GE228.out) | exact HB.out)) hb); clear BK228; clear HB; have BK228 := n0_; have HB := n1_; clear n0_ n1_; (try clear hb); (try clear hb2); (try clear hk); (try clear hi); (try clear A36)))
              go_meet
              case rel => exact ⟨_, (false), (by first | rfl | (simp; done) | (simp [*]; done)), H', ⟨by have := HJ13.out; first | omega | exact Nat.le_refl _⟩, ⟨by (with_reducible repeat (first | refine blk_drewN ?_ _ | refine blk_drew ?_ | refine blk_alloc ?_ _)); exact BK228.out⟩, ⟨by repeat (first | (with_reducible first | exact HB.out | apply below_alloc | apply pw_below_drewN | apply below_drew1 | refine below_set ?_ GE228.out) | exact HB.out)⟩⟩
          case rest =>
            clear HC35
            try clear c2
            try clear p2
            try clear c3
            try clear c7
            try clear c9
            try clear c22
            try clear c22b0
            try clear c22b1
            try clear c23
            try clear c24
            try clear c26
            try clear c26b0
            try clear c26b1
            try clear c31
            try clear c33
            try clear c34
            try clear c37
            try clear c38
            try clear c38b0
            try clear c38b1
            try clear c39
            try clear hcz16_0
            try clear hcz16_1
            try clear hcz16_10
            try clear hcz16_11
            try clear hcz16_12
            try clear hcz16_2
            try clear hcz16_3
            try clear hcz16_4
            try clear hcz16_5
            try clear hcz16_6
            try clear hcz16_7
            try clear hcz16_8
            try clear hcz16_9
            try clear hcz18_0
            try clear hcz18_1
            try clear hcz18_10
            try clear hcz18_11
            try clear hcz18_12
            try clear hcz18_2
            try clear hcz18_3
            try clear hcz18_4
            try clear hcz18_5
            try clear hcz18_6
            try clear hcz18_7
            try clear hcz18_8
            try clear hcz18_9
            try clear hcz20_0
            try clear hcz20_1
            try clear hcz20_10
            try clear hcz20_11
            try clear hcz20_12
            try clear hcz20_2
            try clear hcz20_3
            try clear hcz20_4
            try clear hcz20_5
            try clear hcz20_6
            try clear hcz20_7
            try clear hcz20_8
            try clear hcz20_9
            try clear hcz28_0
            try clear hcz28_1
            try clear hcz28_10
            try clear hcz28_11
            try clear hcz28_12
            try clear hcz28_2
            try clear hcz28_3
            try clear hcz28_4
            try clear hcz28_5
            try clear hcz28_6
            try clear hcz28_7
            try clear hcz28_8
            try clear hcz28_9
            try clear hcz30_0
            try clear hcz30_1
            try clear hcz30_10
            try clear hcz30_11
            try clear hcz30_12
            try clear hcz30_2
            try clear hcz30_3
            try clear hcz30_4
            try clear hcz30_5
            try clear hcz30_6
            try clear hcz30_7
            try clear hcz30_8
            try clear hcz30_9
            try clear hcz32_0
            try clear hcz32_1
            try clear hcz32_10
            try clear hcz32_11
            try clear hcz32_12
            try clear hcz32_2
            try clear hcz32_3
            try clear hcz32_4
            try clear hcz32_5
            try clear hcz32_6
            try clear hcz32_7
            try clear hcz32_8
            try clear hcz32_9
            try clear hcz39_0
            try clear hcz39_1
            try clear hcz39_10
            try clear hcz39_11
            try clear hcz39_12
            try clear hcz39_2
            try clear hcz39_3
            try clear hcz39_4
            try clear hcz39_5
            try clear hcz39_6
            try clear hcz39_7
            try clear hcz39_8
            try clear hcz39_9
            try clear hcz41_0
            try clear hcz41_1
            try clear hcz41_10
            try clear hcz41_11
            try clear hcz41_12
            try clear hcz41_2
            try clear hcz41_3
            try clear hcz41_4
            try clear hcz41_5
            try clear hcz41_6
            try clear hcz41_7
            try clear hcz41_8
            try clear hcz41_9
            try clear hcz43_0
            try clear hcz43_1
            try clear hcz43_10
            try clear hcz43_11
            try clear hcz43_12
            try clear hcz43_2
            try clear hcz43_3
            try clear hcz43_4
            try clear hcz43_5
            try clear hcz43_6
            try clear hcz43_7
            try clear hcz43_8
            try clear hcz43_9
            try clear hcz6_0
            try clear hcz6_1
            try clear hcz6_10
            try clear hcz6_11
            try clear hcz6_12
            try clear hcz6_2
            try clear hcz6_3
            try clear hcz6_4
            try clear hcz6_5
            try clear hcz6_6
            try clear hcz6_7
            try clear hcz6_8
            try clear hcz6_9
            try clear hfz16_0
            try clear hfz16_1
            try clear hfz16_10
            try clear hfz16_11
            try clear hfz16_12
            try clear hfz16_2
            try clear hfz16_3
            try clear hfz16_4
            try clear hfz16_5
            try clear hfz16_6
            try clear hfz16_7
            try clear hfz16_8
            try clear hfz16_9
            try clear hfz18_0
            try clear hfz18_1
            try clear hfz18_10
            try clear hfz18_11
            try clear hfz18_12
            try clear hfz18_2
            try clear hfz18_3
            try clear hfz18_4
            try clear hfz18_5
            try clear hfz18_6
            try clear hfz18_7
            try clear hfz18_8
            try clear hfz18_9
            try clear hfz20_0
            try clear hfz20_1
            try clear hfz20_10
            try clear hfz20_11
            try clear hfz20_12
            try clear hfz20_2
            try clear hfz20_3
            try clear hfz20_4
            try clear hfz20_5
            try clear hfz20_6
            try clear hfz20_7
            try clear hfz20_8
            try clear hfz20_9
            try clear hfz28_0
            try clear hfz28_1
            try clear hfz28_10
            try clear hfz28_11
            try clear hfz28_12
            try clear hfz28_2
            try clear hfz28_3
            try clear hfz28_4
            try clear hfz28_5
            try clear hfz28_6
            try clear hfz28_7
            try clear hfz28_8
            try clear hfz28_9
            try clear hfz30_0
            try clear hfz30_1
            try clear hfz30_10
            try clear hfz30_11
            try clear hfz30_12
            try clear hfz30_2
            try clear hfz30_3
            try clear hfz30_4
            try clear hfz30_5
            try clear hfz30_6
            try clear hfz30_7
            try clear hfz30_8
            try clear hfz30_9
            try clear hfz32_0
            try clear hfz32_1
            try clear hfz32_10
            try clear hfz32_11
            try clear hfz32_12
            try clear hfz32_2
            try clear hfz32_3
            try clear hfz32_4
            try clear hfz32_5
            try clear hfz32_6
            try clear hfz32_7
            try clear hfz32_8
            try clear hfz32_9
            try clear hfz39_0
            try clear hfz39_1
            try clear hfz39_10
            try clear hfz39_11
            try clear hfz39_12
            try clear hfz39_2
            try clear hfz39_3
            try clear hfz39_4
            try clear hfz39_5
            try clear hfz39_6
            try clear hfz39_7
            try clear hfz39_8
            try clear hfz39_9
            try clear hfz41_0
            try clear hfz41_1
            try clear hfz41_10
            try clear hfz41_11
            try clear hfz41_12
            try clear hfz41_2
            try clear hfz41_3
            try clear hfz41_4
            try clear hfz41_5
            try clear hfz41_6
            try clear hfz41_7
            try clear hfz41_8
            try clear hfz41_9
            try clear hfz43_0
            try clear hfz43_1
            try clear hfz43_10
            try clear hfz43_11
            try clear hfz43_12
            try clear hfz43_2
            try clear hfz43_3
            try clear hfz43_4
            try clear hfz43_5
            try clear hfz43_6
            try clear hfz43_7
            try clear hfz43_8
            try clear hfz43_9
            try clear hfz6_0
            try clear hfz6_1
            try clear hfz6_10
            try clear hfz6_11
            try clear hfz6_12
            try clear hfz6_2
            try clear hfz6_3
            try clear hfz6_4
            try clear hfz6_5
            try clear hfz6_6
            try clear hfz6_7
            try clear hfz6_8
            try clear hfz6_9
            try clear p2
            obtain ⟨kq, x58_34, rfl, HA, HJ34, BK228, HB⟩ := hcut
            cases kq with
            | zero => exact absurd HA.out (by simp [boarderlaw16_ClassSays.j1])
            | succ kj34 =>
              have H := HA.out
              clear HA
              simp only [boarderlaw16_ClassSays.j1] at H
              by_cases c45 : x58_34 = true
              · subst c45
                have H1 : (some false) = some r := by rw [if_pos rfl] at H; exact H
                clear H
                have H := H1
                clear H1
                obtain rfl := Option.some.inj H
                go_wp2
                go_ret
                exact ⟨by first | rfl | (simp [errW_none, errW_some] <;> rfl) | (simp [*, errW_none, errW_some] <;> rfl), by repeat (first | (with_reducible first | exact HB.out | apply below_alloc | apply pw_below_drewN | apply below_drew1 | refine below_set ?_ GE228.out) | exact HB.out)⟩
              · replace c45 := Bool.eq_false_iff.mpr c45
                subst c45
                have H1 : (if t231 = 0 then ((boarderlaw16_knows.f kj34).bind fun t239 => (some t239)) else ((boarderref05_Kind.f kj34 l0_12).bind fun t240 => (if t240 = 3 then ((boarderlaw16_knows.f kj34).bind fun t241 => (some t241)) else (some false)))) = some r := by rw [if_neg (show ¬ (false = true) by decide)] at H; exact H
                clear H
                have H := H1
                clear H1
                by_cases c46 : t231 = 0
                · rw [if_pos c46] at H
                  have c46b0 : (t231 == 0) = true := beq_iff_eq.mpr c46
                  have c46b1 : (t231 != 0) = false := bne_eq_false_iff_eq.mpr c46
                  clear c46
                  replace H := Option.bind_eq_some_iff.mp H
                  obtain ⟨t239, A470, H⟩ := H
                  replace H : (some t239) = some r := H
                  have A47 := Aside0.mk A470
                  clear A470
                  obtain rfl := Option.some.inj H
                  go_wp2_with (first | (go_at_call 31; (with_reducible refine (boarderlaw16_knows.calls kj34  t239 _ A47.out).mono ?_); rintro e w48 ⟨rfl, hb⟩; have n0_ := Aside0.mk (blk_below (g := gb228) (o := .cells #[.int .i64 a0_0, .int .i64 a0_1, .int .i64 a0_2, .int .i64 a0_3, .int .i64 a0_4, .int .i64 a0_5, .int .i64 a0_6, .int .i64 a0_7, .int .i64 a0_8, .int .i64 a0_9, .int .i64 a0_10, .slice A0_11 l0_11.length c0_11, .slice A0_12 l0_12.length c0_12] 42 (0, 0)) (by (with_reducible repeat (first | refine blk_drewN ?_ _ | refine blk_drew ?_ | refine blk_alloc ?_ _)); exact BK228.out) hb); have n1_ := Aside0.mk (below_step (by repeat (first | (with_reducible first | exact HB.out | apply below_alloc | apply pw_below_drewN | apply below_drew1 | refine below_set ?_ GE228.out) | exact HB.out)) hb); clear BK228; clear HB; have BK228 := n0_; have HB := n1_; clear n0_ n1_; (try clear hb); (try clear hb2); (try clear hk); (try clear hi); (try clear A47)))
                  go_ret
                  exact ⟨by first | rfl | (simp [errW_none, errW_some] <;> rfl) | (simp [*, errW_none, errW_some] <;> rfl), by repeat (first | (with_reducible first | exact HB.out | apply below_alloc | apply pw_below_drewN | apply below_drew1 | refine below_set ?_ GE228.out) | exact HB.out)⟩
                · rw [if_neg c46] at H
                  have c46b0 : (t231 == 0) = false := beq_eq_false_iff_ne.mpr c46
                  have c46b1 : (t231 != 0) = true := bne_iff_ne.mpr c46
                  replace H := Option.bind_eq_some_iff.mp H
                  obtain ⟨t240, A490, H⟩ := H
                  replace H : (if t240 = 3 then ((boarderlaw16_knows.f kj34).bind fun t241 => (some t241)) else (some false)) = some r := H
                  have A49 := Aside0.mk A490
                  clear A490
                  by_cases c50 : t240 = 3
                  · rw [if_pos c50] at H
                    have c50b0 : (t240 == 3) = true := beq_iff_eq.mpr c50
                    have c50b1 : (t240 != 3) = false := bne_eq_false_iff_eq.mpr c50
                    clear c50
                    replace H := Option.bind_eq_some_iff.mp H
                    obtain ⟨t241, A510, H⟩ := H
                    replace H : (some t241) = some r := H
                    have A51 := Aside0.mk A510
                    clear A510
                    obtain rfl := Option.some.inj H
                    have hcz52_0 : wc.cell? ⟨gb228, 0, none⟩ = some (.int .i64 a0_0) := (blk_cell BK228.out 0).trans rfl
                    have hcz52_1 : wc.cell? ⟨gb228, 1, none⟩ = some (.int .i64 a0_1) := (blk_cell BK228.out 1).trans rfl
                    have hcz52_2 : wc.cell? ⟨gb228, 2, none⟩ = some (.int .i64 a0_2) := (blk_cell BK228.out 2).trans rfl
                    have hcz52_3 : wc.cell? ⟨gb228, 3, none⟩ = some (.int .i64 a0_3) := (blk_cell BK228.out 3).trans rfl
                    have hcz52_4 : wc.cell? ⟨gb228, 4, none⟩ = some (.int .i64 a0_4) := (blk_cell BK228.out 4).trans rfl
                    have hcz52_5 : wc.cell? ⟨gb228, 5, none⟩ = some (.int .i64 a0_5) := (blk_cell BK228.out 5).trans rfl
                    have hcz52_6 : wc.cell? ⟨gb228, 6, none⟩ = some (.int .i64 a0_6) := (blk_cell BK228.out 6).trans rfl
                    have hcz52_7 : wc.cell? ⟨gb228, 7, none⟩ = some (.int .i64 a0_7) := (blk_cell BK228.out 7).trans rfl
                    have hcz52_8 : wc.cell? ⟨gb228, 8, none⟩ = some (.int .i64 a0_8) := (blk_cell BK228.out 8).trans rfl
                    have hcz52_9 : wc.cell? ⟨gb228, 9, none⟩ = some (.int .i64 a0_9) := (blk_cell BK228.out 9).trans rfl
                    have hcz52_10 : wc.cell? ⟨gb228, 10, none⟩ = some (.int .i64 a0_10) := (blk_cell BK228.out 10).trans rfl
                    have hcz52_11 : wc.cell? ⟨gb228, 11, none⟩ = some (.slice A0_11 l0_11.length c0_11) := (blk_cell BK228.out 11).trans rfl
                    have hcz52_12 : wc.cell? ⟨gb228, 12, none⟩ = some (.slice A0_12 l0_12.length c0_12) := (blk_cell BK228.out 12).trans rfl
                    have hfz52_0 := blk_frozen BK228.out 0
                    have hfz52_1 := blk_frozen BK228.out 1
                    have hfz52_2 := blk_frozen BK228.out 2
                    have hfz52_3 := blk_frozen BK228.out 3
                    have hfz52_4 := blk_frozen BK228.out 4
                    have hfz52_5 := blk_frozen BK228.out 5
                    have hfz52_6 := blk_frozen BK228.out 6
                    have hfz52_7 := blk_frozen BK228.out 7
                    have hfz52_8 := blk_frozen BK228.out 8
                    have hfz52_9 := blk_frozen BK228.out 9
                    have hfz52_10 := blk_frozen BK228.out 10
                    have hfz52_11 := blk_frozen BK228.out 11
                    have hfz52_12 := blk_frozen BK228.out 12
                    go_wp2_with (first | (go_at_call 40; (with_reducible refine (boarderref05_Kind.calls kj34 _ _ l0_12 t240 _ ?side1 ?side2 A49.out).mono ?_); (case side1 => repeat (first | exact (Kd.C_below HR0_12.out HB.out) | (with_reducible refine Kd.C_alloc ?_ _) | (with_reducible refine Kd.C_drewN ?_ _) | (with_reducible refine Kd.C_drew ?_))); (case side2 => exact HC0_12.out); rintro e w53 ⟨rfl, hb⟩; have n0_ := Aside0.mk (blk_below (g := gb228) (o := .cells #[.int .i64 a0_0, .int .i64 a0_1, .int .i64 a0_2, .int .i64 a0_3, .int .i64 a0_4, .int .i64 a0_5, .int .i64 a0_6, .int .i64 a0_7, .int .i64 a0_8, .int .i64 a0_9, .int .i64 a0_10, .slice A0_11 l0_11.length c0_11, .slice A0_12 l0_12.length c0_12] 42 (0, 0)) (by (with_reducible repeat (first | refine blk_drewN ?_ _ | refine blk_drew ?_ | refine blk_alloc ?_ _)); exact BK228.out) hb); have n1_ := Aside0.mk (below_step (by repeat (first | (with_reducible first | exact HB.out | apply below_alloc | apply pw_below_drewN | apply below_drew1 | refine below_set ?_ GE228.out) | exact HB.out)) hb); clear BK228; clear HB; have BK228 := n0_; have HB := n1_; clear n0_ n1_; (try clear hb); (try clear hb2); (try clear hk); (try clear hi); (try clear A49)) | (go_at_call 31; (with_reducible refine (boarderlaw16_knows.calls kj34  t241 _ A51.out).mono ?_); rintro e w54 ⟨rfl, hb⟩; have n0_ := Aside0.mk (blk_below (g := gb228) (o := .cells #[.int .i64 a0_0, .int .i64 a0_1, .int .i64 a0_2, .int .i64 a0_3, .int .i64 a0_4, .int .i64 a0_5, .int .i64 a0_6, .int .i64 a0_7, .int .i64 a0_8, .int .i64 a0_9, .int .i64 a0_10, .slice A0_11 l0_11.length c0_11, .slice A0_12 l0_12.length c0_12] 42 (0, 0)) (by (with_reducible repeat (first | refine blk_drewN ?_ _ | refine blk_drew ?_ | refine blk_alloc ?_ _)); exact BK228.out) hb); have n1_ := Aside0.mk (below_step (by repeat (first | (with_reducible first | exact HB.out | apply below_alloc | apply pw_below_drewN | apply below_drew1 | refine below_set ?_ GE228.out) | exact HB.out)) hb); clear BK228; clear HB; have BK228 := n0_; have HB := n1_; clear n0_ n1_; (try clear hb); (try clear hb2); (try clear hk); (try clear hi); (try clear A51)))
                    go_ret
                    exact ⟨by first | rfl | (simp [errW_none, errW_some] <;> rfl) | (simp [*, errW_none, errW_some] <;> rfl), by repeat (first | (with_reducible first | exact HB.out | apply below_alloc | apply pw_below_drewN | apply below_drew1 | refine below_set ?_ GE228.out) | exact HB.out)⟩
                  · rw [if_neg c50] at H
                    have c50b0 : (t240 == 3) = false := beq_eq_false_iff_ne.mpr c50
                    have c50b1 : (t240 != 3) = true := bne_iff_ne.mpr c50
                    obtain rfl := Option.some.inj H
                    have hcz55_0 : wc.cell? ⟨gb228, 0, none⟩ = some (.int .i64 a0_0) := (blk_cell BK228.out 0).trans rfl
                    have hcz55_1 : wc.cell? ⟨gb228, 1, none⟩ = some (.int .i64 a0_1) := (blk_cell BK228.out 1).trans rfl
                    have hcz55_2 : wc.cell? ⟨gb228, 2, none⟩ = some (.int .i64 a0_2) := (blk_cell BK228.out 2).trans rfl
                    have hcz55_3 : wc.cell? ⟨gb228, 3, none⟩ = some (.int .i64 a0_3) := (blk_cell BK228.out 3).trans rfl
                    have hcz55_4 : wc.cell? ⟨gb228, 4, none⟩ = some (.int .i64 a0_4) := (blk_cell BK228.out 4).trans rfl
                    have hcz55_5 : wc.cell? ⟨gb228, 5, none⟩ = some (.int .i64 a0_5) := (blk_cell BK228.out 5).trans rfl
                    have hcz55_6 : wc.cell? ⟨gb228, 6, none⟩ = some (.int .i64 a0_6) := (blk_cell BK228.out 6).trans rfl
                    have hcz55_7 : wc.cell? ⟨gb228, 7, none⟩ = some (.int .i64 a0_7) := (blk_cell BK228.out 7).trans rfl
                    have hcz55_8 : wc.cell? ⟨gb228, 8, none⟩ = some (.int .i64 a0_8) := (blk_cell BK228.out 8).trans rfl
                    have hcz55_9 : wc.cell? ⟨gb228, 9, none⟩ = some (.int .i64 a0_9) := (blk_cell BK228.out 9).trans rfl
                    have hcz55_10 : wc.cell? ⟨gb228, 10, none⟩ = some (.int .i64 a0_10) := (blk_cell BK228.out 10).trans rfl
                    have hcz55_11 : wc.cell? ⟨gb228, 11, none⟩ = some (.slice A0_11 l0_11.length c0_11) := (blk_cell BK228.out 11).trans rfl
                    have hcz55_12 : wc.cell? ⟨gb228, 12, none⟩ = some (.slice A0_12 l0_12.length c0_12) := (blk_cell BK228.out 12).trans rfl
                    have hfz55_0 := blk_frozen BK228.out 0
                    have hfz55_1 := blk_frozen BK228.out 1
                    have hfz55_2 := blk_frozen BK228.out 2
                    have hfz55_3 := blk_frozen BK228.out 3
                    have hfz55_4 := blk_frozen BK228.out 4
                    have hfz55_5 := blk_frozen BK228.out 5
                    have hfz55_6 := blk_frozen BK228.out 6
                    have hfz55_7 := blk_frozen BK228.out 7
                    have hfz55_8 := blk_frozen BK228.out 8
                    have hfz55_9 := blk_frozen BK228.out 9
                    have hfz55_10 := blk_frozen BK228.out 10
                    have hfz55_11 := blk_frozen BK228.out 11
                    have hfz55_12 := blk_frozen BK228.out 12
                    go_wp2_with (first | (go_at_call 40; (with_reducible refine (boarderref05_Kind.calls kj34 _ _ l0_12 t240 _ ?side1 ?side2 A49.out).mono ?_); (case side1 => repeat (first | exact (Kd.C_below HR0_12.out HB.out) | (with_reducible refine Kd.C_alloc ?_ _) | (with_reducible refine Kd.C_drewN ?_ _) | (with_reducible refine Kd.C_drew ?_))); (case side2 => exact HC0_12.out); rintro e w56 ⟨rfl, hb⟩; have n0_ := Aside0.mk (blk_below (g := gb228) (o := .cells #[.int .i64 a0_0, .int .i64 a0_1, .int .i64 a0_2, .int .i64 a0_3, .int .i64 a0_4, .int .i64 a0_5, .int .i64 a0_6, .int .i64 a0_7, .int .i64 a0_8, .int .i64 a0_9, .int .i64 a0_10, .slice A0_11 l0_11.length c0_11, .slice A0_12 l0_12.length c0_12] 42 (0, 0)) (by (with_reducible repeat (first | refine blk_drewN ?_ _ | refine blk_drew ?_ | refine blk_alloc ?_ _)); exact BK228.out) hb); have n1_ := Aside0.mk (below_step (by repeat (first | (with_reducible first | exact HB.out | apply below_alloc | apply pw_below_drewN | apply below_drew1 | refine below_set ?_ GE228.out) | exact HB.out)) hb); clear BK228; clear HB; have BK228 := n0_; have HB := n1_; clear n0_ n1_; (try clear hb); (try clear hb2); (try clear hk); (try clear hi); (try clear A49)))
                    go_ret
                    exact ⟨by first | rfl | (simp [errW_none, errW_some] <;> rfl) | (simp [*, errW_none, errW_some] <;> rfl), by repeat (first | (with_reducible first | exact HB.out | apply below_alloc | apply pw_below_drewN | apply below_drew1 | refine below_set ?_ GE228.out) | exact HB.out)⟩

/-- THE ONE PURE STATEMENT of boarderlaw16_ClassSays: yours. -/
def boarderlaw16_ClassSays.Pure : Prop := ∀ (a0_0 : Int) (a0_1 : Int) (a0_2 : Int) (a0_3 : Int) (a0_4 : Int) (a0_5 : Int) (a0_6 : Int) (a0_7 : Int) (a0_8 : Int) (a0_9 : Int) (a0_10 : Int) (l0_11 : List Int) (l0_12 : List (S70)) (a1 : Int), (Lit.int .i64 a0_0).wf = true → (Lit.int .i64 a0_1).wf = true → (Lit.int .i64 a0_2).wf = true → (Lit.int .i64 a0_3).wf = true → (Lit.int .i64 a0_4).wf = true → (Lit.int .i64 a0_5).wf = true → (Lit.int .i64 a0_6).wf = true → (Lit.int .i64 a0_7).wf = true → (Lit.int .i64 a0_8).wf = true → (Lit.int .i64 a0_9).wf = true → (Lit.int .i64 a0_10).wf = true → l0_11.length ≤ maxLen → (∀ y0 ∈ l0_11, (Lit.int .u8 y0).wf = true) → l0_12.length ≤ maxLen → (∀ y0 ∈ l0_12, wf70 y0) → (Lit.int .i64 a1).wf = true → ∃ k, boarderlaw16_ClassSays.f k a0_0 a0_1 a0_2 a0_3 a0_4 a0_5 a0_6 a0_7 a0_8 a0_9 a0_10 l0_11 l0_12 a1 = some true
theorem boarderlaw16_ClassSays.walk (P : boarderlaw16_ClassSays.Pure) (a0_0 : Int) (a0_1 : Int) (a0_2 : Int) (a0_3 : Int) (a0_4 : Int) (a0_5 : Int) (a0_6 : Int) (a0_7 : Int) (a0_8 : Int) (a0_9 : Int) (a0_10 : Int) (A0_11 : Option Addr) (c0_11 : Nat) (l0_11 : List Int) (A0_12 : Option Addr) (c0_12 : Nat) (l0_12 : List (S70)) (a1 : Int) (w : World) (hw0_0 : (Lit.int .i64 a0_0).wf = true) (hw0_1 : (Lit.int .i64 a0_1).wf = true) (hw0_2 : (Lit.int .i64 a0_2).wf = true) (hw0_3 : (Lit.int .i64 a0_3).wf = true) (hw0_4 : (Lit.int .i64 a0_4).wf = true) (hw0_5 : (Lit.int .i64 a0_5).wf = true) (hw0_6 : (Lit.int .i64 a0_6).wf = true) (hw0_7 : (Lit.int .i64 a0_7).wf = true) (hw0_8 : (Lit.int .i64 a0_8).wf = true) (hw0_9 : (Lit.int .i64 a0_9).wf = true) (hw0_10 : (Lit.int .i64 a0_10).wf = true) (hr0_11 : Kd.C (Kd.int .u8) w A0_11 l0_11.length l0_11) (hc0_11 : l0_11.length ≤ c0_11) (hm0_11 : l0_11.length ≤ maxLen) (hw0_11 : ∀ y0 ∈ l0_11, (Lit.int .u8 y0).wf = true) (hr0_12 : Kd.C k70 w A0_12 l0_12.length l0_12) (hc0_12 : l0_12.length ≤ c0_12) (hm0_12 : l0_12.length ≤ maxLen) (hw0_12 : ∀ y0 ∈ l0_12, wf70 y0) (w1 : (Lit.int .i64 a1).wf = true) :
    Calls Try.prog 9 #[.agg #[.int .i64 a0_0, .int .i64 a0_1, .int .i64 a0_2, .int .i64 a0_3, .int .i64 a0_4, .int .i64 a0_5, .int .i64 a0_6, .int .i64 a0_7, .int .i64 a0_8, .int .i64 a0_9, .int .i64 a0_10, .slice A0_11 l0_11.length c0_11, .slice A0_12 l0_12.length c0_12], .int .i64 a1] w fun e w' => e = .returned (.bool true) ∧ Below w.heap.size w w' := by
  obtain ⟨k, h⟩ := P a0_0 a0_1 a0_2 a0_3 a0_4 a0_5 a0_6 a0_7 a0_8 a0_9 a0_10 l0_11 l0_12 a1 hw0_0 hw0_1 hw0_2 hw0_3 hw0_4 hw0_5 hw0_6 hw0_7 hw0_8 hw0_9 hw0_10 hm0_11 hw0_11 hm0_12 hw0_12 w1
  refine (boarderlaw16_ClassSays.calls k a0_0 a0_1 a0_2 a0_3 a0_4 a0_5 a0_6 a0_7 a0_8 a0_9 a0_10 _ _ l0_11 _ _ l0_12 a1 true w hr0_11 hc0_11 hr0_12 hc0_12 h).mono ?_
  rintro e w' ⟨rfl, hd⟩
  exact ⟨rfl, hd⟩

end Go.Proofs.Ytiklcnlehlpdaaa.POpt
