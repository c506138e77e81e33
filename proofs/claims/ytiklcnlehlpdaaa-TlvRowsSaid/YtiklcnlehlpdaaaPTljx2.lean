-- printed by a program of this session, made after the kit's own printer
import Derived.Test.YtiklcnlehlpdaaaPTljx0
import Derived.Test.YtiklcnlehlpdaaaPTljx1
namespace Go.Proofs.Ytiklcnlehlpdaaa.PTlj
open Go.RowKit Go.Proofs.YtiklcnlehlpdaaaW.PrintWords Go.Proofs.YtiklcnlehlpdaaaW.PrintLast Go.Proofs.YtiklcnlehlpdaaaW.PrintMore
attribute [local go_sem] max2_int min2_int max_two min_two max_three min_three max_four min_four   -- for this text's walks alone
set_option linter.unusedVariables false
set_option linter.unusedSimpArgs false

/-! ### tlv_Write: function 25 -/
mutual
def tlv_Write.l0 : Nat → List Int → List (S70) → Int → Int → Option (List Int × Int)
  | 0, _, _, _, _ => none
  | k + 1, x4, x13, x14, x15 => if x15 < x14 then (if 0 ≤ x15 then (if x15 < (x13.length : Int) then (tlv_Write.l1 k x4 ((rd_T70 x13 x15).f1) true x13 x14 x15 ((rd_T70 x13 x15).f0) ((rd_T70 x13 x15).f1)) else (none)) else (none)) else (if x4.length < 140737488355328 then (some ((x4 ++ [255]), 0)) else (none))
def tlv_Write.l1 : Nat → List Int → List Int → Bool → List (S70) → Int → Int → Int → List Int → Option (List Int × Int)
  | 0, _, _, _, _, _, _, _, _ => none
  | k + 1, x4, x7, x8, x13, x14, x15, x123000, x123001 => if x8 = true then ((some (([(x123000) % 256, mn (x7.length : Int) 255] : List Int) : List Int)).bind fun y123 => (if x4.length + y123.length < 140737488355328 then ((some (x4 ++ y123 : List Int)).bind fun y126 => (if 0 ≤ (mn (x7.length : Int) 255) then (if (mn (x7.length : Int) 255) ≤ (x7.length : Int) then ((some (x7.take ((mn (x7.length : Int) 255) : Int).toNat : List Int)).bind fun y129 => (if y126.length + y129.length < 140737488355328 then (tlv_Write.l1 k (y126 ++ y129) (x7.drop ((mn (x7.length : Int) 255) : Int).toNat) false x13 x14 x15 x123000 x123001) else (none))) else (none)) else (none))) else (none))) else (if (x7.length : Int) > 0 then ((some (([(x123000) % 256, mn (x7.length : Int) 255] : List Int) : List Int)).bind fun y142 => (if x4.length + y142.length < 140737488355328 then ((some (x4 ++ y142 : List Int)).bind fun y145 => (if 0 ≤ (mn (x7.length : Int) 255) then (if (mn (x7.length : Int) 255) ≤ (x7.length : Int) then ((some (x7.take ((mn (x7.length : Int) 255) : Int).toNat : List Int)).bind fun y148 => (if y145.length + y148.length < 140737488355328 then (tlv_Write.l1 k (y145 ++ y148) (x7.drop ((mn (x7.length : Int) 255) : Int).toNat) false x13 x14 x15 x123000 x123001) else (none))) else (none)) else (none))) else (none))) else (tlv_Write.l0 k x4 x13 x14 (wrap64 (x15 + 1))))
end
def tlv_Write.f (k : Nat) (l0 : List (S70)) : Option (List Int × Int) := (tlv_Right.f k l0).bind fun t117 => (if t117 = true then (tlv_Write.l0 k ([] : List Int) l0 (l0.length : Int) 0) else (some (([] : List Int), 1)))
theorem tlv_Write.mono_l : ∀ k, (∀ y0 y1 y2 y3, LeO (tlv_Write.l0 k y0 y1 y2 y3) (tlv_Write.l0 (k + 1) y0 y1 y2 y3)) ∧ (∀ y0 y1 y2 y3 y4 y5 y6 y7, LeO (tlv_Write.l1 k y0 y1 y2 y3 y4 y5 y6 y7) (tlv_Write.l1 (k + 1) y0 y1 y2 y3 y4 y5 y6 y7))
  | 0 => ⟨fun _ _ _ _ r h => by simp [tlv_Write.l0] at h, fun _ _ _ _ _ _ _ _ r h => by simp [tlv_Write.l1] at h⟩
  | k + 1 => by
    obtain ⟨ih0, ih1⟩ := tlv_Write.mono_l k
    refine ⟨?_, ?_⟩
    · intro y0 y1 y2 y3
      unfold tlv_Write.l0
      repeat' first
      | (with_reducible exact ih0 _ _ _ _)
      | (with_reducible exact ih1 _ _ _ _ _ _ _ _)
      | (with_reducible exact tlv_Right.mono _ _)
      | (with_reducible exact LeO.refl _)
      | (with_reducible exact LeO.none _)
      | (with_reducible refine LeO.ite ?_ ?_)
      | (with_reducible refine LeO.bind ?_ (fun _ => ?_))
      | exact ih0 _ _ _ _
      | exact ih1 _ _ _ _ _ _ _ _
      | exact tlv_Right.mono _ _
      | exact LeO.none _
      | refine LeO.ite ?_ ?_
      | refine LeO.bind ?_ (fun _ => ?_)
    · intro y0 y1 y2 y3 y4 y5 y6 y7
      unfold tlv_Write.l1
      repeat' first
      | (with_reducible exact ih0 _ _ _ _)
      | (with_reducible exact ih1 _ _ _ _ _ _ _ _)
      | (with_reducible exact tlv_Right.mono _ _)
      | (with_reducible exact LeO.refl _)
      | (with_reducible exact LeO.none _)
      | (with_reducible refine LeO.ite ?_ ?_)
      | (with_reducible refine LeO.bind ?_ (fun _ => ?_))
      | exact ih0 _ _ _ _
      | exact ih1 _ _ _ _ _ _ _ _
      | exact tlv_Right.mono _ _
      | exact LeO.none _
      | refine LeO.ite ?_ ?_
      | refine LeO.bind ?_ (fun _ => ?_)
theorem tlv_Write.mono : ∀ a0 k, LeO (tlv_Write.f k a0) (tlv_Write.f (k + 1) a0) := by
  intro a0 k
  obtain ⟨ih0, ih1⟩ := tlv_Write.mono_l k
  unfold tlv_Write.f
  repeat' first
      | (with_reducible exact ih0 _ _ _ _)
      | (with_reducible exact ih1 _ _ _ _ _ _ _ _)
      | (with_reducible exact tlv_Right.mono _ _)
      | (with_reducible exact LeO.refl _)
      | (with_reducible exact LeO.none _)
      | (with_reducible refine LeO.ite ?_ ?_)
      | (with_reducible refine LeO.bind ?_ (fun _ => ?_))
      | exact ih0 _ _ _ _
      | exact ih1 _ _ _ _ _ _ _ _
      | exact tlv_Right.mono _ _
      | exact LeO.none _
      | refine LeO.ite ?_ ?_
      | refine LeO.bind ?_ (fun _ => ?_)
def tlv_Write.T12 : Bool × List (List Nat × List Nat) := (true, [([], []), ([], []), ([1], [1]), ([2], [2]), ([], []), ([4], [4]), ([3, 5], [3, 5]), ([0, 6], [0, 6]), ([], []), ([], []), ([8, 9], [8, 9]), ([7, 10, 7], [7, 10]), ([11, 11, 0, 1, 2, 3, 4, 5, 6, 7, 8, 9, 10, 11], [0, 11])])
def tlv_Write.B12 : List Nat := [0, 0, 2, 6, 0, 16, 62, 127, 0, 0, 768, 2047, 4095]
theorem tlv_Write.tab12 : rtab .any (opsOf Try.f25 12) = tlv_Write.T12 := by kernel_rfl
theorem tlv_Write.bits12 : waitsOk tlv_Write.T12.2 tlv_Write.B12 = true := by kernel_rfl
set_option maxHeartbeats 8000000 in
set_option maxRecDepth 100000 in
theorem tlv_Write.calls (k : Nat) (P0_ : Nat → Prop) (A0 : Option Addr) (c0 : Nat) (l0 : List (S70)) (r1 : List Int) (r2 : Int) (w : World) (hs0 : Kd.V k70 70 w w.heap.size (fun k_ => P0_ k_) (.slice A0 l0.length c0) l0) (h : tlv_Write.f k l0 = some (r1, r2)) :
    Calls Try.prog 25 #[.slice A0 l0.length c0] w fun e w' => ∃ v0_ : Value, e = .returned (.tuple #[v0_, .int .i64 r2]) ∧ Kd.R (Kd.int .u8) 5 w' w.heap.size (fun k_ => (w.heap.size ≤ k_)) v0_ r1 ∧ Below w.heap.size w w' := by
  have hu70 := Try.underlying70
  have HO0 := Aside0.mk (show Kd.V k70 70 w w.heap.size (fun k_ => (P0_ k_ ∨ w.heap.size ≤ k_)) (.slice A0 l0.length c0) l0 from Kd.V_mono hs0 (fun k_ hk => .inl hk))
  have HB := Aside0.mk (Below.refl w.heap.size w)
  have H : ((tlv_Right.f k l0).bind fun t117 => (if t117 = true then (tlv_Write.l0 k ([] : List Int) l0 (l0.length : Int) 0) else (some (([] : List Int), 1)))) = some (r1, r2) := h
  clear h
  replace H := Option.bind_eq_some_iff.mp H
  obtain ⟨t117, A20, H⟩ := H
  replace H : (if t117 = true then (tlv_Write.l0 k ([] : List Int) l0 (l0.length : Int) 0) else (some (([] : List Int), 1))) = some (r1, r2) := H
  have A2 := Aside0.mk A20
  clear A20
  by_cases c3 : t117 = true
  · subst c3
    have H1 : (tlv_Write.l0 k ([] : List Int) l0 (l0.length : Int) 0) = some (r1, r2) := by rw [if_pos rfl] at H; exact H
    clear H
    have H := H1
    clear H1
    have H' := Aside0.mk H
    clear H
    go_enter Try.func25, Try.ntmps25
    go_wp2_with (first | ((with_reducible refine gate_callee (f := 23) rfl ?_); refine goesL_ (some 11) rfl rfl Try.func23 (by kernel_rfl) rfl #[.slice A0 l0.length c0] rfl (by (try simp only [List.map_toArray, List.map_cons, List.map_nil]); first | done | rfl | (simp only [List.length_drop, List.length_take]; rfl)) ?_; (with_reducible refine (tlv_Right.calls k _ _ l0 true _ ?side1 ?side2 A2.out).mono ?_); (case side1 => repeat (first | exact (Kd.V_reads' HO0.out).2.2 | (with_reducible refine Kd.C_alloc ?_ _) | (with_reducible refine Kd.C_drewN ?_ _) | (with_reducible refine Kd.C_drew ?_))); (case side2 => exact (Kd.V_reads' HO0.out).2.1); rintro e w4 ⟨rfl, hb⟩; refine ⟨_, rfl, ?_⟩; have n0_ := Aside0.mk (Kd.V_below (by (with_reducible repeat (first | apply Kd.V_alloc | apply Kd.V_drewN | apply Kd.V_drew)); exact HO0.out) hb); have n1_ := Aside0.mk (below_step (by repeat (first | (with_reducible first | exact HB.out | apply below_alloc | apply pw_below_drewN | apply below_drew1) | exact HB.out)) hb); clear HO0; clear HB; have HO0 := n0_; have HB := n1_; clear n0_ n1_; (try clear hb); (try clear hb2); (try clear hk); (try clear hi)))
    go_loopg [4, 15] k (fun kq v4 v15 w' => ∃ (x4_1 : List Int) (x15_1 : Int), v15 = .int .i64 x15_1 ∧ Aside0 (tlv_Write.l0 kq x4_1 l0 (l0.length : Int) x15_1 = some (r1, r2)) ∧ Aside0 (kq ≤ k) ∧ Aside0 (Kd.R (Kd.int .u8) 5 w' w.heap.size (fun k_ => (w.heap.size ≤ k_)) v4 x4_1) ∧ Aside0 (Kd.V k70 70 w' w.heap.size (fun k_ => (P0_ k_ ∨ w.heap.size ≤ k_) ∧ some k_ ≠ (v4 : Value).ownBlock) (.slice A0 l0.length c0) l0) ∧ Aside0 (Below w.heap.size w w'))
    case atStart => exact ⟨(([] : List Int)), (0), (by first | rfl | (simp; done) | (simp [*]; done)), H', ⟨Nat.le_refl _⟩, ⟨by first | exact Kd.R_nil _ _ _ _ _ | exact Kd.N_nil _ _ _ _ _ | exact Kd.V_nil _ _ _ _ _ | exact Kd.Q_nil _ _ _ _ _ | exact Kd.S_nil _ _ _ _ _⟩, ⟨by (with_reducible repeat (first | apply Kd.V_alloc | apply Kd.V_drewN | apply Kd.V_drew)); exact Kd.V_mono HO0.out (fun _ hk => ⟨hk, (by simp [Value.ownBlock])⟩)⟩, ⟨by repeat (first | (with_reducible first | exact HB.out | apply below_alloc | apply pw_below_drewN | apply below_drew1) | exact HB.out)⟩⟩
    case round =>
      clear H'
      try clear c2
      try clear p2
      try clear c3
      obtain ⟨x4_1, x15_1, rfl, HA, HK1, HO_4, HO_13, HB⟩ := hrel
      cases gk with
      | zero => exact absurd HA.out (by simp [tlv_Write.l0])
      | succ k1 =>
        have H := HA.out
        clear HA
        simp only [tlv_Write.l0] at H
        by_cases c5 : x15_1 < (l0.length : Int)
        · rw [if_pos c5] at H
          have c5b0 : decide (x15_1 < (l0.length : Int)) = true := decide_eq_true c5
          clear c5
          by_cases c6 : 0 ≤ x15_1
          · rw [if_pos c6] at H
            have c6b0 : decide (0 ≤ x15_1) = true := decide_eq_true c6
            clear c6
            by_cases c7 : x15_1 < (l0.length : Int)
            · rw [if_pos c7] at H
              have c7b0 : decide (x15_1 < (l0.length : Int)) = true := decide_eq_true c7
              clear c7
              have H' := Aside0.mk H
              clear H
              have p121 : 0 ≤ (x15_1 : Int) := of_decide_eq_true (by first | (with_reducible assumption) | assumption)
              have q121 : x15_1 < (l0.length : Int) := of_decide_eq_true (by first | (with_reducible assumption) | assumption)
              obtain ⟨ad121, A121_1, c121_1, e121, hx121_0, hx121_1, hl121_1, hi121_1⟩ := at_T70 (Kd.V_reads' HO_13.out).2.2 x15_1 p121 q121
              cases e121
              obtain ⟨ce121, hce121, hMe121, hcc121⟩ := Kd.V_get HO_13.out z70 x15_1 p121 (by first | exact q121 | exact of_decide_eq_true (by first | (with_reducible assumption) | assumption) | (have e_ := (Kd.V_reads' HO_13.out).1; omega))
              obtain ⟨ua121_1, uc121_1, rfl, ul121_1, ge121_1⟩ := k70_openF hMe121
              have hv121_1 := hcc121 1 _ rfl
              rw [add_field _ _ 1 (by omega)] at hv121_1
              replace hv121_1 := Option.some.inj (hv121_1.symm.trans hx121_1)
              injection hv121_1 with hva_ hvn_ hvc_
              rw [hva_] at ge121_1
              rw [hvc_] at ul121_1
              have HL121_1 := Aside0.mk (show Kd.V (Kd.int .u8) 5 _ w.heap.size _ _ ((rd_T70 l0 x15_1).f1) from Kd.V_mk ul121_1 ge121_1)
              clear hva_ hvn_ hvc_ ge121_1 ul121_1
              clear hcc121 hce121
              have HR121_1 := Aside0.mk hi121_1
              have HC121_1 := Aside0.mk hl121_1
              clear hi121_1 hl121_1
              replace p121 := eq_true p121
              replace q121 := eq_true q121
              go_wp2_with (first | ((with_reducible refine gate_dst (N := 6) rfl ?_); (try (refine gate_guard (by rfl) ?_; dsimp only)); refine box_event ?hg (N := 6) ?hd (cs := #[.int .i64 0, .slice none 0 0]) (t := 70) ?hr ?_; (case hd => rfl); (case hg => rfl); (case hr => first | (go_simp; done) | (go_simp; rfl)); intro gb122 hg w8 hbox hb; have n0_ := Aside0.mk (Kd.R_below (by (with_reducible repeat (first | apply Kd.R_alloc | apply Kd.R_drewN | apply Kd.R_drew)); exact HO_4.out) hb); have n1_ := Aside0.mk (Kd.V_below (Kd.V_elderB (by (with_reducible repeat (first | apply Kd.V_alloc | apply Kd.V_drewN | apply Kd.V_drew)); exact HO_13.out) gb122 (Nat.le_of_eq hg.symm)) hb); have n2_ := Aside0.mk (Kd.V_below (Kd.V_elderB (by (with_reducible repeat (first | apply Kd.V_alloc | apply Kd.V_drewN | apply Kd.V_drew)); exact HL121_1.out) gb122 (Nat.le_of_eq hg.symm)) hb); have n3_ := Aside0.mk (Kd.C_below (by repeat (first | (with_reducible exact HR121_1.out) | (with_reducible refine Kd.C_alloc ?_ _) | (with_reducible refine Kd.C_drewN ?_ _) | (with_reducible refine Kd.C_drew ?_) | exact HR121_1.out)) hb); have n4_ := Aside0.mk (below_step (by repeat (first | (with_reducible first | exact HB.out | apply below_alloc | apply pw_below_drewN | apply below_drew1) | exact HB.out)) hb); have n5_ := Aside0.mk (hbox); have n6_ := Aside0.mk ((by rw [hg]; exact (below_size (by repeat (first | (with_reducible first | exact HB.out | apply below_alloc | apply pw_below_drewN | apply below_drew1) | exact HB.out))) : w.heap.size ≤ gb122)); have n7_ := Aside0.mk ((by rw [hg]; exact (below_size (by repeat (first | (with_reducible first | exact HB.out | apply below_alloc | apply pw_below_drewN | apply below_drew1) | exact HB.out))) : w.heap.size ≤ gb122)); clear HO_4; clear HO_13; clear HL121_1; clear HR121_1; clear HB; have HO_4 := n0_; have HO_13 := n1_; have HL121_1 := n2_; have HR121_1 := n3_; have HB := n4_; have BK122 := n5_; have GW122 := n6_; have GE122 := n7_; clear n0_ n1_ n2_ n3_ n4_ n5_ n6_ n7_; clear hb hbox hg; have hcz9_0 : w8.cell? ⟨gb122, 0, none⟩ = some (.int .i64 0) := (blk_cell BK122.out 0).trans rfl; have hcz9_1 : w8.cell? ⟨gb122, 1, none⟩ = some (.slice none 0 0) := (blk_cell BK122.out 1).trans rfl; have hfz9_0 := blk_frozen BK122.out 0; have hfz9_1 := blk_frozen BK122.out 1))
              go_loopg [4, 7, 8] k1 (fun kq v4 v7 v8 w' => ∃ (x4_2 : List Int) (x7_2 : List Int) (x8_2 : Bool), v8 = .bool x8_2 ∧ Aside0 (tlv_Write.l1 kq x4_2 x7_2 x8_2 l0 (l0.length : Int) x15_1 ((rd_T70 l0 x15_1).f0) ((rd_T70 l0 x15_1).f1) = some (r1, r2)) ∧ Aside0 (kq ≤ k1) ∧ Aside0 (Kd.R (Kd.int .u8) 5 w' w.heap.size (fun k_ => (w.heap.size ≤ k_)) v4 x4_2) ∧ Aside0 (Kd.V (Kd.int .u8) 5 w' w.heap.size (fun k_ => (P0_ k_ ∨ w.heap.size ≤ k_) ∧ some k_ ≠ (v4 : Value).ownBlock ∧ k_ ≠ gb122) v7 x7_2) ∧ Aside0 (Kd.V k70 70 w' w.heap.size (fun k_ => (P0_ k_ ∨ w.heap.size ≤ k_) ∧ some k_ ≠ (v4 : Value).ownBlock ∧ k_ ≠ gb122) (.slice (some ad121) l0.length c0) l0) ∧ Aside0 (w'.heap[gb122]? = some (.cells #[.int .i64 ((rd_T70 l0 x15_1).f0), (.slice A121_1 ((rd_T70 l0 x15_1).f1).length c121_1)] 70 (0, 0))) ∧ Aside0 (Below w.heap.size w w'))
              case atStart => exact ⟨(x4_1), ((rd_T70 l0 x15_1).f1), (true), (by first | rfl | (simp; done) | (simp [*]; done)), H', ⟨Nat.le_refl _⟩, ⟨by (with_reducible repeat (first | apply Kd.R_alloc | apply Kd.R_drewN | apply Kd.R_drew)); exact Kd.R_mono (Kd.R_far (p := ⟨gb122, 1, none⟩) (Kd.R_far (p := ⟨gb122, 0, none⟩) (Kd.R_types HO_4.out BK122.out (by decide)) (fun _ hk => hk.2) (.int .i64 ((rd_T70 l0 x15_1).f0))) (fun _ hk => hk.2) (.slice A121_1 ((rd_T70 l0 x15_1).f1).length c121_1)) (fun _ hk => hk.1)⟩, ⟨by (with_reducible repeat (first | apply Kd.V_alloc | apply Kd.V_drewN | apply Kd.V_drew)); exact Kd.V_mono (Kd.V_far (p := ⟨gb122, 1, none⟩) (Kd.V_far (p := ⟨gb122, 0, none⟩) (Kd.V_mono HL121_1.out (fun k_ hk => (⟨hk, hk.2⟩ : _ ∧ k_ ≠ gb122))) (fun _ hk => hk.2) (.int .i64 ((rd_T70 l0 x15_1).f0))) (fun _ hk => hk.2) (.slice A121_1 ((rd_T70 l0 x15_1).f1).length c121_1)) (fun _ hk => ⟨hk.1.1.1, ⟨hk.1.1.2, hk.1.2⟩⟩)⟩, ⟨by (with_reducible repeat (first | apply Kd.V_alloc | apply Kd.V_drewN | apply Kd.V_drew)); exact Kd.V_mono (Kd.V_far (p := ⟨gb122, 1, none⟩) (Kd.V_far (p := ⟨gb122, 0, none⟩) (Kd.V_mono HO_13.out (fun k_ hk => (⟨hk, hk.2⟩ : _ ∧ k_ ≠ gb122))) (fun _ hk => hk.2) (.int .i64 ((rd_T70 l0 x15_1).f0))) (fun _ hk => hk.2) (.slice A121_1 ((rd_T70 l0 x15_1).f1).length c121_1)) (fun _ hk => ⟨hk.1.1.1, ⟨hk.1.1.2, hk.1.2⟩⟩)⟩, ⟨by (with_reducible repeat (first | refine blk_drewN ?_ _ | refine blk_drew ?_ | refine blk_alloc ?_ _)); refine blk_put (cs := #[.int .i64 ((rd_T70 l0 x15_1).f0), .slice none 0 0]) ?_ 1 _ rfl; (with_reducible repeat (first | refine blk_drewN ?_ _ | refine blk_drew ?_ | refine blk_alloc ?_ _)); refine blk_put (cs := #[.int .i64 0, .slice none 0 0]) ?_ 0 _ rfl; (with_reducible repeat (first | refine blk_drewN ?_ _ | refine blk_drew ?_ | refine blk_alloc ?_ _)); exact BK122.out⟩, ⟨by repeat (first | (with_reducible first | exact HB.out | apply below_alloc | apply pw_below_drewN | apply below_drew1 | refine below_set ?_ GE122.out) | exact HB.out)⟩⟩
              case round =>
                clear H'
                try clear c1
                try clear p1
                try clear q1
                try clear hx1
                try clear c2
                try clear p2
                try clear c3
                try clear c5
                try clear c5b0
                try clear c6
                try clear c6b0
                try clear c7
                try clear c7b0
                try clear hcz9_0
                try clear hcz9_1
                try clear hfz9_0
                try clear hfz9_1
                try clear hx121_0
                try clear hx121_1
                try clear p121
                try clear p2
                try clear q121
                obtain ⟨x4_2, x7_2, x8_2, rfl, HA, HK2, HO_4, HO_7, HO_13, BK122, HB⟩ := hrel
                cases gk with
                | zero => exact absurd HA.out (by simp [tlv_Write.l1])
                | succ k2 =>
                  have H := HA.out
                  clear HA
                  simp only [tlv_Write.l1] at H
                  by_cases c10 : x8_2 = true
                  · subst c10
                    have H1 : ((some (([(((rd_T70 l0 x15_1).f0)) % 256, mn (x7_2.length : Int) 255] : List Int) : List Int)).bind fun y123 => (if x4_2.length + y123.length < 140737488355328 then ((some (x4_2 ++ y123 : List Int)).bind fun y126 => (if 0 ≤ (mn (x7_2.length : Int) 255) then (if (mn (x7_2.length : Int) 255) ≤ (x7_2.length : Int) then ((some (x7_2.take ((mn (x7_2.length : Int) 255) : Int).toNat : List Int)).bind fun y129 => (if y126.length + y129.length < 140737488355328 then (tlv_Write.l1 k2 (y126 ++ y129) (x7_2.drop ((mn (x7_2.length : Int) 255) : Int).toNat) false l0 (l0.length : Int) x15_1 ((rd_T70 l0 x15_1).f0) ((rd_T70 l0 x15_1).f1)) else (none))) else (none)) else (none))) else (none))) = some (r1, r2) := by rw [if_pos rfl] at H; exact H
                    clear H
                    have H := H1
                    clear H1
                    obtain ⟨ji11, hji11⟩ : ∃ j_ : Int, (mn (x7_2.length : Int) 255) = j_ := ⟨_, rfl⟩
                    replace H : ((some (([(((rd_T70 l0 x15_1).f0)) % 256, ji11] : List Int) : List Int)).bind fun y123 => (if x4_2.length + y123.length < 140737488355328 then ((some (x4_2 ++ y123 : List Int)).bind fun y126 => (if 0 ≤ (ji11) then (if (ji11) ≤ (x7_2.length : Int) then ((some (x7_2.take ((ji11) : Int).toNat : List Int)).bind fun y129 => (if y126.length + y129.length < 140737488355328 then (tlv_Write.l1 k2 (y126 ++ y129) (x7_2.drop ((ji11) : Int).toNat) false l0 (l0.length : Int) x15_1 ((rd_T70 l0 x15_1).f0) ((rd_T70 l0 x15_1).f1)) else (none))) else (none)) else (none))) else (none))) = some (r1, r2) := by first | (rw [hji11] at H; exact H) | (simp only [hji11] at H ⊢; exact H)
                    have hji11_ : (if 255 < (x7_2.length : Int) then 255 else (x7_2.length : Int)) = ji11 := hji11
                    obtain ⟨y123, hy123⟩ : ∃ y_ : List Int, y_ = (([(((rd_T70 l0 x15_1).f0)) % 256, ji11] : List Int)) := ⟨_, rfl⟩
                    replace H : (if x4_2.length + y123.length < 140737488355328 then ((some (x4_2 ++ y123 : List Int)).bind fun y126 => (if 0 ≤ (ji11) then (if (ji11) ≤ (x7_2.length : Int) then ((some (x7_2.take ((ji11) : Int).toNat : List Int)).bind fun y129 => (if y126.length + y129.length < 140737488355328 then (tlv_Write.l1 k2 (y126 ++ y129) (x7_2.drop ((ji11) : Int).toNat) false l0 (l0.length : Int) x15_1 ((rd_T70 l0 x15_1).f0) ((rd_T70 l0 x15_1).f1)) else (none))) else (none)) else (none))) else (none)) = some (r1, r2) := by first | (rw [hy123]; with_reducible exact H) | (have H2_ := (Option.bind_some _ _).symm.trans H; rw [hy123]; with_reducible exact H2_) | (have H2_ := (Option.bind_some _ _).symm.trans H; with_reducible exact H2_) | with_reducible exact H | (rw [hy123]; exact H) | exact H
                    have Ny123 := Aside0.mk hy123
                    clear hy123
                    by_cases c12 : x4_2.length + y123.length < 140737488355328
                    · rw [if_pos c12] at H
                      have LMc12 := Aside0.mk c12
                      clear c12
                      obtain ⟨y126, hy126⟩ : ∃ y_ : List Int, y_ = (x4_2 ++ y123) := ⟨_, rfl⟩
                      replace H : (if 0 ≤ (ji11) then (if (ji11) ≤ (x7_2.length : Int) then ((some (x7_2.take ((ji11) : Int).toNat : List Int)).bind fun y129 => (if y126.length + y129.length < 140737488355328 then (tlv_Write.l1 k2 (y126 ++ y129) (x7_2.drop ((ji11) : Int).toNat) false l0 (l0.length : Int) x15_1 ((rd_T70 l0 x15_1).f0) ((rd_T70 l0 x15_1).f1)) else (none))) else (none)) else (none)) = some (r1, r2) := by first | (rw [hy126]; with_reducible exact H) | (have H2_ := (Option.bind_some _ _).symm.trans H; rw [hy126]; with_reducible exact H2_) | (have H2_ := (Option.bind_some _ _).symm.trans H; with_reducible exact H2_) | with_reducible exact H | (rw [hy126]; exact H) | exact H
                      have Ny126 := Aside0.mk hy126
                      clear hy126
                      by_cases c13 : 0 ≤ (ji11)
                      · rw [if_pos c13] at H
                        have c13b0 := eq_true c13
                        have c13b1 : decide (0 ≤ (ji11)) = true := decide_eq_true c13
                        clear c13
                        by_cases c14 : (ji11) ≤ (x7_2.length : Int)
                        · rw [if_pos c14] at H
                          have c14b0 := eq_true c14
                          have c14b1 : decide ((ji11) ≤ (x7_2.length : Int)) = true := decide_eq_true c14
                          clear c14
                          obtain ⟨y129, hy129⟩ : ∃ y_ : List Int, y_ = (x7_2.take ((ji11) : Int).toNat) := ⟨_, rfl⟩
                          replace H : (if y126.length + y129.length < 140737488355328 then (tlv_Write.l1 k2 (y126 ++ y129) (x7_2.drop ((ji11) : Int).toNat) false l0 (l0.length : Int) x15_1 ((rd_T70 l0 x15_1).f0) ((rd_T70 l0 x15_1).f1)) else (none)) = some (r1, r2) := by first | (rw [hy129]; with_reducible exact H) | (have H2_ := (Option.bind_some _ _).symm.trans H; rw [hy129]; with_reducible exact H2_) | (have H2_ := (Option.bind_some _ _).symm.trans H; with_reducible exact H2_) | with_reducible exact H | (rw [hy129]; exact H) | exact H
                          have Ny129 := Aside0.mk hy129
                          clear hy129
                          by_cases c15 : y126.length + y129.length < 140737488355328
                          · rw [if_pos c15] at H
                            have LMc15 := Aside0.mk c15
                            clear c15
                            obtain ⟨y134, hy134⟩ : ∃ y_ : List Int, y_ = (y126 ++ y129) := ⟨_, rfl⟩
                            replace H : (tlv_Write.l1 k2 y134 (x7_2.drop ((ji11) : Int).toNat) false l0 (l0.length : Int) x15_1 ((rd_T70 l0 x15_1).f0) ((rd_T70 l0 x15_1).f1)) = some (r1, r2) := by first | (rw [hy134]; with_reducible exact H) | (have H2_ := (Option.bind_some _ _).symm.trans H; rw [hy134]; with_reducible exact H2_) | (have H2_ := (Option.bind_some _ _).symm.trans H; with_reducible exact H2_) | with_reducible exact H | (rw [hy134]; exact H) | exact H
                            have Ny134 := Aside0.mk hy134
                            clear hy134
                            have c16b0 := eq_true (of_decide_eq_true (by first | (with_reducible assumption) | assumption) : 0 ≤ (ji11))
                            have c17b0 := eq_true (of_decide_eq_true (by first | (with_reducible assumption) | assumption) : (ji11) ≤ (x7_2.length : Int))
                            obtain ⟨y137, hy137⟩ : ∃ y_ : List Int, y_ = (x7_2.drop ((ji11) : Int).toNat) := ⟨_, rfl⟩
                            replace H : (tlv_Write.l1 k2 y134 y137 false l0 (l0.length : Int) x15_1 ((rd_T70 l0 x15_1).f0) ((rd_T70 l0 x15_1).f1)) = some (r1, r2) := by first | (rw [hy137]; with_reducible exact H) | (have H2_ := (Option.bind_some _ _).symm.trans H; rw [hy137]; with_reducible exact H2_) | (have H2_ := (Option.bind_some _ _).symm.trans H; with_reducible exact H2_) | with_reducible exact H | (rw [hy137]; exact H) | exact H
                            have Ny137 := Aside0.mk hy137
                            clear hy137
                            have H' := Aside0.mk H
                            clear H
                            obtain ⟨Ao18, co18, eo18⟩ := Kd.V_slice HO_7.out
                            subst eo18
                            try go_wp2
                            have n0_ := Aside0.mk (Kd.R_drew HO_4.out)
                            have n1_ := Aside0.mk (Kd.V_drew HO_7.out)
                            have n2_ := Aside0.mk (Kd.V_drew HO_13.out)
                            have n3_ := Aside0.mk (blk_drew BK122.out)
                            have n4_ := Aside0.mk (below_drew1 HB.out)
                            clear HO_4
                            clear HO_7
                            clear HO_13
                            clear BK122
                            clear HB
                            have HO_4 := n0_
                            have HO_7 := n1_
                            have HO_13 := n2_
                            have BK122 := n3_
                            have HB := n4_
                            clear n0_ n1_ n2_ n3_ n4_
                            have q20 : ((ji11) : Int) ≤ ((x7_2.length : Int) : Int) := of_decide_eq_true (by first | (with_reducible assumption) | assumption)
                            obtain ⟨i020, hi020, _, hsz20, _⟩ := info_parts info5
                            have hroom20 : x7_2.length ≤ co18 := (Kd.V_reads' HO_7.out).2.1
                            have hC20 : Kd.F (Kd.int .u8) _ _ Ao18 x7_2.length x7_2 := (Kd.V_at (base := w.heap.size) HO_7.out).2.2
                            have hcut20 := cut_to (P := Try.prog) 25 5 .i64 Try.underlying25 hi020 Ao18 x7_2.length co18 (ji11) (of_decide_eq_true (by first | (with_reducible assumption) | assumption)) q20 hroom20
                            have hr20 := Kd.F_take (m := ((ji11) : Int).toNat) hC20 (by omega)
                            have hy20 : y129.length = ((ji11) : Int).toNat := (by rw [Ny129.out, List.length_take]; omega)
                            rw [← Ny129.out] at hr20
                            rw [← hy20] at hcut20
                            have HO133 := Aside0.mk (show Kd.V (Kd.int .u8) 5 _ w.heap.size _ (.slice Ao18 y129.length co18) y129 from Kd.V_mk (by omega) hr20)
                            have HC133 := Aside0.mk (show y129.length ≤ co18 from by omega)
                            clear hr20 hC20 hroom20 hi020 hsz20
                            have KY20 := Aside0.mk hy20
                            clear hy20
                            replace q20 := eq_true q20
                            refine start_ (n := 13) (S := fun w' => w'.cell? ⟨gb122, 0, none⟩ = some (.int .i64 ((rd_T70 l0 x15_1).f0)) ∧ w'.cell? ⟨gb122, 1, none⟩ = some (.slice A121_1 ((rd_T70 l0 x15_1).f1).length c121_1)) (ds := []) #[false, false, false, false, false, false, false, false, false, false, false, false, false] (by kernel_rfl) rfl rfl ⟨(blk_cell BK122.out 0).trans rfl, (blk_cell BK122.out 1).trans rfl⟩ (fun hHeld => ?_); refine with_tabW tlv_Write.tab12 tlv_Write.bits12 (fun HT_ HW_ => ?_)
                            generalize wr.drew = w19 at HO_4 HO_7 HO_13 BK122 HB HO133 hHeld ⊢
                            refine pure_ (i := 0) (N := some 30) (v := ?_) (a' := ?_) #[true, false, false, false, false, false, false, false, false, false, false, false, false] rfl rfl (any_of HT_.out (by kernel_rfl)) (fun _ _ _ h => h) (Or.inl ⟨by rfl, ?_⟩) ?_ ?_
                            rotate_left
                            · intro w'
                              go_simp
                              with_reducible rfl
                            rotate_left
                            · simp only [Act.put, List.setIfInBounds_toArray, List.set_cons_zero, List.set_cons_succ, i64_w, i32_w]
                              rfl
                            refine pure_ (i := 1) (N := some 31) (v := ?_) (a' := ?_) #[true, true, false, false, false, false, false, false, false, false, false, false, false] rfl rfl (any_of HT_.out (by kernel_rfl)) (fun _ _ _ h => h) (Or.inl ⟨by rfl, ?_⟩) ?_ ?_
                            rotate_left
                            · intro w'
                              go_simp
                              with_reducible rfl
                            rotate_left
                            · simp only [Act.put, List.setIfInBounds_toArray, List.set_cons_zero, List.set_cons_succ, i64_w, i32_w]
                              rfl
                            refine pure_ (i := 4) (N := some 34) (v := ?_) (a' := ?_) #[true, true, false, false, true, false, false, false, false, false, false, false, false] rfl rfl (any_of HT_.out (by kernel_rfl)) (fun _ _ _ h => h) (Or.inl ⟨by rfl, ?_⟩) ?_ ?_
                            rotate_left
                            · intro w'
                              go_simp
                              with_reducible rfl
                            rotate_left
                            · simp only [Act.put, List.setIfInBounds_toArray, List.set_cons_zero, List.set_cons_succ, i64_w, i32_w]
                              rfl
                            refine pure_ (i := 5) (N := some 35) (v := ?_) (a' := ?_) #[true, true, false, false, true, true, false, false, false, false, false, false, false] rfl rfl (any_of HT_.out (by kernel_rfl)) (fun _ _ _ h => h) (Or.inl ⟨by rfl, ?_⟩) ?_ ?_
                            rotate_left
                            · intro w'
                              go_simp
                              with_reducible rfl
                            rotate_left
                            · simp only [Act.put, List.setIfInBounds_toArray, List.set_cons_zero, List.set_cons_succ, i64_w, i32_w]
                              rfl
                            refine pure_ (i := 8) (N := some 38) (v := ?_) (a' := ?_) #[true, true, false, false, true, true, false, false, true, false, false, false, false] rfl rfl (any_of HT_.out (by kernel_rfl)) (fun _ _ _ h => h) (Or.inl ⟨by rfl, ?_⟩) ?_ ?_
                            rotate_left
                            · intro w'
                              go_simp
                              with_reducible rfl
                            rotate_left
                            · simp only [Act.put, List.setIfInBounds_toArray, List.set_cons_zero, List.set_cons_succ, i64_w, i32_w]
                              rfl
                            refine pure_ (i := 9) (N := some 39) (v := ?_) (a' := ?_) #[true, true, false, false, true, true, false, false, true, true, false, false, false] rfl rfl (any_of HT_.out (by kernel_rfl)) (fun _ _ _ h => h) (Or.inl ⟨by rfl, ?_⟩) ?_ ?_
                            rotate_left
                            · intro w'
                              go_simp
                              with_reducible rfl
                            rotate_left
                            · simp only [Act.put, List.setIfInBounds_toArray, List.set_cons_zero, List.set_cons_succ, i64_w, i32_w]
                              rfl
                            refine pure_ (i := 10) (N := some 40) (v := ?_) (a' := ?_) #[true, true, false, false, true, true, false, false, true, true, true, false, false] rfl rfl (any_of HT_.out (by kernel_rfl)) (fun _ _ _ h => h) (Or.inl ⟨by rfl, ?_⟩) ?_ ?_
                            rotate_left
                            · intro w'
                              go_simp
                              with_reducible rfl
                            rotate_left
                            · simp only [Act.put, List.setIfInBounds_toArray, List.set_cons_zero, List.set_cons_succ, i64_w, i32_w]
                              rfl
                            refine take_ (i := 2) (N := some 32) (v := ?_) (a' := ?_) #[true, true, true, false, true, true, false, false, true, true, true, false, false] rfl rfl (take_ofW HT_.out HW_.out (by kernel_rfl)) (fun _ _ _ h => h) (Or.inl ⟨by rfl, ?_⟩) hHeld ?_ ?_
                            rotate_left
                            · rintro w' ⟨s0, s1⟩
                              go_simp
                              with_reducible rfl
                            rotate_left
                            · simp only [Act.put, List.setIfInBounds_toArray, List.set_cons_zero, List.set_cons_succ, i64_w, i32_w]
                              rfl
                            refine pure_ (i := 3) (N := some 33) (v := ?_) (a' := ?_) #[true, true, true, true, true, true, false, false, true, true, true, false, false] rfl rfl (any_of HT_.out (by kernel_rfl)) (fun _ _ _ h => h) (Or.inl ⟨by rfl, ?_⟩) ?_ ?_
                            rotate_left
                            · intro w'
                              go_simp
                              with_reducible rfl
                            rotate_left
                            · simp only [Act.put, List.setIfInBounds_toArray, List.set_cons_zero, List.set_cons_succ, i64_w, i32_w]
                              rfl
                            refine one_ (i := 6) (N := some 36) #[true, true, true, true, true, true, true, false, true, true, true, false, false] rfl rfl (one_of HT_.out (by kernel_rfl)) (by decide) (fun K hK => ?_)
                            refine Kd.R_lit_step (Kd.int .u8) _ 5 ?hg (N := 36) ?hd (xs := ([(((rd_T70 l0 x15_1).f0)) % 256, ji11] : List Int)) (inner := [.int .u8 ((((rd_T70 l0 x15_1).f0)) % 256), .int .u8 ji11]) (ok := fun _ => True) (okp := fun _ => True) ?hr ?hp (fun _ hk => hk) trivial (Below.refl _ _) (Nat.le_refl _) (by simp) ?_; (case hd => rfl); (case hg => rfl); (case hr => first | (go_simp; done) | (go_simp; rfl) | (go_simp; (try simp only [u8_w, u32_w]); (try rw [show (ji11) % 256 = ji11 from by omega]); first | done | rfl)); (case hp => exact (Reps.one (show Kd.M (Kd.int .u8) _ _ _ ((((rd_T70 l0 x15_1).f0)) % 256) [.int .u8 ((((rd_T70 l0 x15_1).f0)) % 256)] from rfl) (Reps.one (show Kd.M (Kd.int .u8) _ _ _ ji11 [.int .u8 ji11] from rfl) (Reps.none _ _))))
                            intro v124 w21 ho22 hb hg_ hnew_
                            clear hg_ hnew_
                            (first | rw [← Ny123.out] at ho22 | (simp only [Int.reduceToNat] at ho22; rw [← Ny123.out] at ho22))
                            have n0_ := Aside0.mk (Kd.R_elder' (by (with_reducible repeat (first | apply Kd.R_alloc | apply Kd.R_drewN | apply Kd.R_drew)); exact HO_4.out) (Kd.R_base ho22) hb)
                            have n1_ := Aside0.mk (Kd.V_elder' (by (with_reducible repeat (first | apply Kd.V_alloc | apply Kd.V_drewN | apply Kd.V_drew)); exact HO_7.out) (Kd.R_base ho22) hb)
                            have n2_ := Aside0.mk (Kd.V_elder' (by (with_reducible repeat (first | apply Kd.V_alloc | apply Kd.V_drewN | apply Kd.V_drew)); exact HO_13.out) (Kd.R_base ho22) hb)
                            have n3_ := Aside0.mk (Kd.V_elder' (by (with_reducible repeat (first | apply Kd.V_alloc | apply Kd.V_drewN | apply Kd.V_drew)); exact HO133.out) (Kd.R_base ho22) hb)
                            have n4_ := Aside0.mk (Kd.R_lower (Kd.R_new' (Kd.R_newM (M := fun k_ => (w.heap.size ≤ k_)) ho22 (below_size (by repeat (first | (with_reducible first | exact HB.out | apply below_alloc | apply pw_below_drewN | apply below_drew1 | refine below_set ?_ GE122.out) | exact HB.out))) (fun k_ h_ => h_)) (Kd.R_lt (by (with_reducible repeat (first | apply Kd.R_alloc | apply Kd.R_drewN | apply Kd.R_drew)); exact HO_4.out))) (below_size (by repeat (first | (with_reducible first | exact HB.out | apply below_alloc | apply pw_below_drewN | apply below_drew1 | refine below_set ?_ GE122.out) | exact HB.out))))
                            have n5_ := Aside0.mk (blk_below (g := gb122) (o := .cells #[.int .i64 ((rd_T70 l0 x15_1).f0), .slice A121_1 ((rd_T70 l0 x15_1).f1).length c121_1] 70 (0, 0)) (by (with_reducible repeat (first | refine blk_drewN ?_ _ | refine blk_drew ?_ | refine blk_alloc ?_ _)); exact BK122.out) hb)
                            have n6_ := Aside0.mk (below_step (by repeat (first | (with_reducible first | exact HB.out | apply below_alloc | apply pw_below_drewN | apply below_drew1 | refine below_set ?_ GE122.out) | exact HB.out)) hb)
                            clear HO_4
                            clear HO_7
                            clear HO_13
                            clear HO133
                            clear BK122
                            clear HB
                            have HO_4 := n0_
                            have HO_7 := n1_
                            have HO_13 := n2_
                            have HO133 := n3_
                            have HO125 := n4_
                            have BK122 := n5_
                            have HB := n6_
                            clear n0_ n1_ n2_ n3_ n4_ n5_ n6_
                            clear hb ho22
                            obtain ⟨Ao24, co24, eo24⟩ := Kd.R_slice HO125.out
                            (first | subst eo24 | (injection eo24 with f1_ f2_ f3_; have f4_ := f1_.symm; have f5_ := f3_.symm; clear f1_ f2_ f3_; subst f4_; subst f5_))
                            refine hK.out _ _ ⟨(blk_cell BK122.out 0).trans rfl, (blk_cell BK122.out 1).trans rfl⟩ (fun hHeld => ?_)
                            clear hK K
                            refine norm_ (a' := ?_) ?_ ?_
                            rotate_left
                            · show Act.put _ (some 36) _ = _
                              simp only [Act.put, List.setIfInBounds_toArray, List.set_cons_zero, List.set_cons_succ, i64_w, i32_w]
                              rfl
                            refine one_ (i := 7) (N := some 37) #[true, true, true, true, true, true, true, true, true, true, true, false, false] rfl rfl (one_of HT_.out (by kernel_rfl)) (by decide) (fun K hK => ?_)
                            refine Kd.R_append_rows_step (Kd.int .u8) (w0 := w) w.heap.size (by rfl) (.tmp 30) (.tmp 36) 25 5 (.int .u8 0) 1 rfl Try.underlying25 info5 rfl (by decide) (by omega) u4 x4_2 y123 _ _ _ (fun k_ => (w.heap.size ≤ k_) ∧ some k_ ≠ (.slice Ao24 y123.length co24 : Value).ownBlock) (fun _ => False) rfl rfl ?aO ?aR (fun _ _ h => h) (fun _ h => h.elim) ?aF ?aB ?aS ?aL ?_
                            (case aR => repeat (first | exact (Kd.R_reads' HO125.out).2.2 | (with_reducible refine Kd.C_alloc ?_ _) | (with_reducible refine Kd.C_drewN ?_ _) | (with_reducible refine Kd.C_drew ?_)))
                            (case aB => exact (by repeat (first | (with_reducible first | exact HB.out | apply below_alloc | apply pw_below_drewN | apply below_drew1 | refine below_set ?_ GE122.out) | exact HB.out)))
                            (case aF => exact (fun k_ hk => ⟨(Nat.le_trans (below_size (by repeat (first | (with_reducible first | exact HB.out | apply below_alloc | apply pw_below_drewN | apply below_drew1 | refine below_set ?_ GE122.out) | exact HB.out))) hk), Kd.fresh' (Kd.R_lt (by (with_reducible repeat (first | apply Kd.R_alloc | apply Kd.R_drewN | apply Kd.R_drew)); exact HO125.out)) k_ hk⟩))
                            (case aO => exact (by (with_reducible repeat (first | apply Kd.R_alloc | apply Kd.R_drewN | apply Kd.R_drew)); exact HO_4.out))
                            (case aS => exact (below_size (by repeat (first | (with_reducible first | exact HB.out | apply below_alloc | apply pw_below_drewN | apply below_drew1 | refine below_set ?_ GE122.out) | exact HB.out))))
                            (case aL => have := LMc12.out; omega)
                            intro v127 w23 ho hb hg hat
                            rw [← Ny126.out] at ho
                            have n0_ := Aside0.mk (Kd.V_afterv (ok := (fun k_ => (P0_ k_ ∨ w.heap.size ≤ k_) ∧ some k_ ≠ (.slice Ao24 y123.length co24 : Value).ownBlock ∧ k_ ≠ gb122)) (by (with_reducible repeat (first | apply Kd.V_alloc | apply Kd.V_drewN | apply Kd.V_drew)); exact Kd.V_mono HO_7.out (fun _ hk => ⟨⟨hk.1.1, ⟨hk.2, hk.1.2.2⟩⟩, hk.1.2.1⟩)) hg hat)
                            have n1_ := Aside0.mk (Kd.V_afterv (ok := (fun k_ => (P0_ k_ ∨ w.heap.size ≤ k_) ∧ some k_ ≠ (.slice Ao24 y123.length co24 : Value).ownBlock ∧ k_ ≠ gb122)) (by (with_reducible repeat (first | apply Kd.V_alloc | apply Kd.V_drewN | apply Kd.V_drew)); exact Kd.V_mono HO_13.out (fun _ hk => ⟨⟨hk.1.1, ⟨hk.2, hk.1.2.2⟩⟩, hk.1.2.1⟩)) hg hat)
                            have n2_ := Aside0.mk (blk_grown (g := gb122) (o := .cells #[.int .i64 ((rd_T70 l0 x15_1).f0), .slice A121_1 ((rd_T70 l0 x15_1).f1).length c121_1] 70 (0, 0)) (by (with_reducible repeat (first | refine blk_drewN ?_ _ | refine blk_drew ?_ | refine blk_alloc ?_ _)); exact BK122.out) hg (Kd.R_ne HO_4.out BK122.out (by decide)))
                            have n3_ := Aside0.mk (Kd.V_afterv (ok := (fun k_ => (P0_ k_ ∨ w.heap.size ≤ k_) ∧ some k_ ≠ (.slice Ao24 y123.length co24 : Value).ownBlock ∧ k_ ≠ gb122)) (by (with_reducible repeat (first | apply Kd.V_alloc | apply Kd.V_drewN | apply Kd.V_drew)); exact Kd.V_mono HO133.out (fun _ hk => ⟨⟨hk.1.1, ⟨hk.2, hk.1.2.2⟩⟩, hk.1.2.1⟩)) hg hat)
                            have n4_ := Aside0.mk (Kd.R_after (ok := (fun k_ => (w.heap.size ≤ k_))) (by (with_reducible repeat (first | apply Kd.R_alloc | apply Kd.R_drewN | apply Kd.R_drew)); exact Kd.R_mono HO125.out (fun _ hk => ⟨hk.1.1, hk.2⟩)) hg hat)
                            have n5_ := Aside0.mk (hb)
                            have n6_ := Aside0.mk (ho)
                            clear HO_7
                            clear HO_13
                            clear BK122
                            clear HO133
                            clear HO125
                            clear HB
                            clear HO_4
                            have HO_7 := n0_
                            have HO_13 := n1_
                            have BK122 := n2_
                            have HO133 := n3_
                            have HO125 := n4_
                            have HB := n5_
                            have HO128 := n6_
                            clear n0_ n1_ n2_ n3_ n4_ n5_ n6_
                            clear ho hb hg hat
                            refine hK.out _ _ ⟨(blk_cell BK122.out 0).trans rfl, (blk_cell BK122.out 1).trans rfl⟩ (fun hHeld => ?_)
                            clear hK K
                            refine norm_ (a' := ?_) ?_ ?_
                            rotate_left
                            · show Act.put _ (some 37) _ = _
                              simp only [Act.put, List.setIfInBounds_toArray, List.set_cons_zero, List.set_cons_succ, i64_w, i32_w]
                              rfl
                            refine one_ (i := 11) (N := some 41) #[true, true, true, true, true, true, true, true, true, true, true, true, false] rfl rfl (one_of HT_.out (by kernel_rfl)) (by decide) (fun K hK => ?_)
                            refine Kd.R_append_rows_step (Kd.int .u8) (w0 := w) w.heap.size (by rfl) (.tmp 37) (.tmp 40) 25 5 (.int .u8 0) 1 rfl Try.underlying25 info5 rfl (by decide) (by omega) v127 y126 y129 _ _ _ (fun k_ => (w.heap.size ≤ k_) ∧ some k_ ≠ (.slice Ao24 y123.length co24 : Value).ownBlock) (fun _ => False) rfl rfl ?aO ?aR (fun _ _ h => h) (fun _ h => h.elim) ?aF ?aB ?aS ?aL ?_
                            (case aR => repeat (first | exact (Kd.V_reads' HO133.out).2.2 | (with_reducible refine Kd.C_alloc ?_ _) | (with_reducible refine Kd.C_drewN ?_ _) | (with_reducible refine Kd.C_drew ?_)))
                            (case aB => exact (by repeat (first | (with_reducible first | exact HB.out | apply below_alloc | apply pw_below_drewN | apply below_drew1 | refine below_set ?_ GE122.out) | exact HB.out)))
                            (case aF => exact (fun k_ hk => ⟨(Nat.le_trans (below_size (by repeat (first | (with_reducible first | exact HB.out | apply below_alloc | apply pw_below_drewN | apply below_drew1 | refine below_set ?_ GE122.out) | exact HB.out))) hk), Kd.fresh' (Kd.R_lt (by (with_reducible repeat (first | apply Kd.R_alloc | apply Kd.R_drewN | apply Kd.R_drew)); exact HO125.out)) k_ hk⟩))
                            (case aO => exact (by (with_reducible repeat (first | apply Kd.R_alloc | apply Kd.R_drewN | apply Kd.R_drew)); exact HO128.out))
                            (case aS => exact (below_size (by repeat (first | (with_reducible first | exact HB.out | apply below_alloc | apply pw_below_drewN | apply below_drew1 | refine below_set ?_ GE122.out) | exact HB.out))))
                            (case aL => have := LMc15.out; omega)
                            intro v135 w25 ho hb hg hat
                            rw [← Ny134.out] at ho
                            have n0_ := Aside0.mk (Kd.V_afterv (ok := (fun k_ => (P0_ k_ ∨ w.heap.size ≤ k_) ∧ some k_ ≠ (.slice Ao24 y123.length co24 : Value).ownBlock ∧ k_ ≠ gb122)) (by (with_reducible repeat (first | apply Kd.V_alloc | apply Kd.V_drewN | apply Kd.V_drew)); exact HO_7.out) hg hat)
                            have n1_ := Aside0.mk (Kd.V_afterv (ok := (fun k_ => (P0_ k_ ∨ w.heap.size ≤ k_) ∧ some k_ ≠ (.slice Ao24 y123.length co24 : Value).ownBlock ∧ k_ ≠ gb122)) (by (with_reducible repeat (first | apply Kd.V_alloc | apply Kd.V_drewN | apply Kd.V_drew)); exact HO_13.out) hg hat)
                            have n2_ := Aside0.mk (blk_grown (g := gb122) (o := .cells #[.int .i64 ((rd_T70 l0 x15_1).f0), .slice A121_1 ((rd_T70 l0 x15_1).f1).length c121_1] 70 (0, 0)) (by (with_reducible repeat (first | refine blk_drewN ?_ _ | refine blk_drew ?_ | refine blk_alloc ?_ _)); exact BK122.out) hg (Kd.R_ne HO128.out BK122.out (by decide)))
                            have n3_ := Aside0.mk (Kd.V_afterv (ok := (fun k_ => (P0_ k_ ∨ w.heap.size ≤ k_) ∧ some k_ ≠ (.slice Ao24 y123.length co24 : Value).ownBlock ∧ k_ ≠ gb122)) (by (with_reducible repeat (first | apply Kd.V_alloc | apply Kd.V_drewN | apply Kd.V_drew)); exact HO133.out) hg hat)
                            have n4_ := Aside0.mk (Kd.R_after (ok := (fun k_ => (w.heap.size ≤ k_))) (by (with_reducible repeat (first | apply Kd.R_alloc | apply Kd.R_drewN | apply Kd.R_drew)); exact HO125.out) hg hat)
                            have n5_ := Aside0.mk (hb)
                            have n6_ := Aside0.mk (ho)
                            clear HO_7
                            clear HO_13
                            clear BK122
                            clear HO133
                            clear HO125
                            clear HB
                            clear HO128
                            have HO_7 := n0_
                            have HO_13 := n1_
                            have BK122 := n2_
                            have HO133 := n3_
                            have HO125 := n4_
                            have HB := n5_
                            have HO136 := n6_
                            clear n0_ n1_ n2_ n3_ n4_ n5_ n6_
                            clear ho hb hg hat
                            refine hK.out _ _ ⟨(blk_cell BK122.out 0).trans rfl, (blk_cell BK122.out 1).trans rfl⟩ (fun hHeld => ?_)
                            clear hK K
                            refine norm_ (a' := ?_) ?_ ?_
                            rotate_left
                            · show Act.put _ (some 41) _ = _
                              simp only [Act.put, List.setIfInBounds_toArray, List.set_cons_zero, List.set_cons_succ, i64_w, i32_w]
                              rfl
                            refine pure_ (i := 12) (N := some 4) (v := ?_) (a' := ?_) #[true, true, true, true, true, true, true, true, true, true, true, true, true] rfl rfl (any_of HT_.out (by kernel_rfl)) (fun _ _ _ h => h) (Or.inl ⟨by rfl, ?_⟩) ?_ ?_
                            rotate_left
                            · intro w'
                              go_simp
                              with_reducible rfl
                            rotate_left
                            · simp only [Act.put, List.setIfInBounds_toArray, List.set_cons_zero, List.set_cons_succ, i64_w, i32_w]
                              rfl
                            refine done_ (done_of HT_.out (by kernel_rfl)) ?_
                            have q26 : ((ji11) : Int) ≤ ((x7_2.length : Int) : Int) := of_decide_eq_true (by first | (with_reducible assumption) | assumption)
                            obtain ⟨i026, hi026, _, hsz26, _⟩ := info_parts info5
                            have hroom26 : x7_2.length ≤ co18 := (Kd.V_reads' HO_7.out).2.1
                            have hC26 : Kd.F (Kd.int .u8) _ _ Ao18 x7_2.length x7_2 := (Kd.V_at (base := w.heap.size) HO_7.out).2.2
                            have q026 : (0 : Int) ≤ ((ji11) : Int) := of_decide_eq_true (by first | (with_reducible assumption) | assumption)
                            have hcut26 := cut_from (P := Try.prog) 25 5 .i64 Try.underlying25 hi026 1 hsz26 Ao18 x7_2.length co18 (ji11) q026 q26
                            have hr26 := Kd.F_cut (m := ((ji11) : Int).toNat) (c := co18) hC26 (by omega) hroom26
                            obtain ⟨A26, hA26⟩ : ∃ A1, A1 = (if co18 = ((ji11) : Int).toNat then Ao18 else (Ao18 : Option Addr).map (·.add (((ji11) : Int).toNat * 1))) := ⟨_, rfl⟩
                            obtain ⟨c26, hc26⟩ : ∃ c1, c1 = co18 - ((ji11) : Int).toNat := ⟨_, rfl⟩
                            have hy26 : y137.length = x7_2.length - ((ji11) : Int).toNat := (by rw [Ny137.out, List.length_drop] <;> omega)
                            rw [show (x7_2).drop ((ji11) : Int).toNat = y137 from Ny137.out.symm] at hr26
                            replace hr26 : Kd.F (Kd.int .u8) _ _ A26 y137.length y137 := (by rw [hA26]; exact hr26)
                            rw [← hy26, ← hA26, ← hc26] at hcut26
                            have HO141 := Aside0.mk (show Kd.V (Kd.int .u8) 5 _ w.heap.size _ (.slice A26 y137.length c26) y137 from Kd.V_mk (by rw [hy26, hc26]; exact Nat.sub_le_sub_right hroom26 _) hr26)
                            have HC141 := Aside0.mk (show y137.length ≤ c26 from by rw [hy26, hc26]; exact Nat.sub_le_sub_right hroom26 _)
                            clear hr26 hC26 hroom26 hi026 hsz26 hc26
                            have KY26 := Aside0.mk hy26
                            have KA26 := Aside0.mk hA26
                            clear hy26 hA26
                            replace q26 := eq_true q26
                            try go_wp2
                            go_roundg k2
                            case measure => have := HK1.out; have := HK2.out; omega
                            case rel => exact ⟨(y134), (y137), (false), (by first | rfl | (simp; done) | (simp [*]; done)), H', ⟨by have := HK1.out; have := HK2.out; omega⟩, ⟨by (with_reducible repeat (first | apply Kd.R_alloc | apply Kd.R_drewN | apply Kd.R_drew)); exact Kd.R_mono HO136.out (fun _ hk => hk.1)⟩, ⟨by (with_reducible repeat (first | apply Kd.V_alloc | apply Kd.V_drewN | apply Kd.V_drew)); exact Kd.V_mono HO141.out (fun _ hk => ⟨hk.1.1, ⟨hk.2, hk.1.2.2⟩⟩)⟩, ⟨by (with_reducible repeat (first | apply Kd.V_alloc | apply Kd.V_drewN | apply Kd.V_drew)); exact Kd.V_mono HO_13.out (fun _ hk => ⟨hk.1.1, ⟨hk.2, hk.1.2.2⟩⟩)⟩, ⟨by (with_reducible repeat (first | refine blk_drewN ?_ _ | refine blk_drew ?_ | refine blk_alloc ?_ _)); exact BK122.out⟩, ⟨by repeat (first | (with_reducible first | exact HB.out | apply below_alloc | apply pw_below_drewN | apply below_drew1 | refine below_set ?_ GE122.out) | exact HB.out)⟩⟩
                          · rw [if_neg c15] at H
                            exact absurd H (by simp)
                        · rw [if_neg c14] at H
                          exact absurd H (by simp)
                      · rw [if_neg c13] at H
                        exact absurd H (by simp)
                    · rw [if_neg c12] at H
                      exact absurd H (by simp)
                  · replace c10 := Bool.eq_false_iff.mpr c10
                    subst c10
                    have H1 : (if (x7_2.length : Int) > 0 then ((some (([(((rd_T70 l0 x15_1).f0)) % 256, mn (x7_2.length : Int) 255] : List Int) : List Int)).bind fun y142 => (if x4_2.length + y142.length < 140737488355328 then ((some (x4_2 ++ y142 : List Int)).bind fun y145 => (if 0 ≤ (mn (x7_2.length : Int) 255) then (if (mn (x7_2.length : Int) 255) ≤ (x7_2.length : Int) then ((some (x7_2.take ((mn (x7_2.length : Int) 255) : Int).toNat : List Int)).bind fun y148 => (if y145.length + y148.length < 140737488355328 then (tlv_Write.l1 k2 (y145 ++ y148) (x7_2.drop ((mn (x7_2.length : Int) 255) : Int).toNat) false l0 (l0.length : Int) x15_1 ((rd_T70 l0 x15_1).f0) ((rd_T70 l0 x15_1).f1)) else (none))) else (none)) else (none))) else (none))) else (tlv_Write.l0 k2 x4_2 l0 (l0.length : Int) (wrap64 (x15_1 + 1)))) = some (r1, r2) := by rw [if_neg (show ¬ (false = true) by decide)] at H; exact H
                    clear H
                    have H := H1
                    clear H1
                    by_cases c27 : (x7_2.length : Int) > 0
                    · rw [if_pos c27] at H
                      have c27b0 : decide (0 < (x7_2.length : Int)) = true := decide_eq_true c27
                      have c27b1 : decide (0 < x7_2.length) = true := decide_eq_true (by omega)
                      clear c27
                      obtain ⟨ji28, hji28⟩ : ∃ j_ : Int, (mn (x7_2.length : Int) 255) = j_ := ⟨_, rfl⟩
                      replace H : ((some (([(((rd_T70 l0 x15_1).f0)) % 256, ji28] : List Int) : List Int)).bind fun y142 => (if x4_2.length + y142.length < 140737488355328 then ((some (x4_2 ++ y142 : List Int)).bind fun y145 => (if 0 ≤ (ji28) then (if (ji28) ≤ (x7_2.length : Int) then ((some (x7_2.take ((ji28) : Int).toNat : List Int)).bind fun y148 => (if y145.length + y148.length < 140737488355328 then (tlv_Write.l1 k2 (y145 ++ y148) (x7_2.drop ((ji28) : Int).toNat) false l0 (l0.length : Int) x15_1 ((rd_T70 l0 x15_1).f0) ((rd_T70 l0 x15_1).f1)) else (none))) else (none)) else (none))) else (none))) = some (r1, r2) := by first | (rw [hji28] at H; exact H) | (simp only [hji28] at H ⊢; exact H)
                      have hji28_ : (if 255 < (x7_2.length : Int) then 255 else (x7_2.length : Int)) = ji28 := hji28
                      obtain ⟨y142, hy142⟩ : ∃ y_ : List Int, y_ = (([(((rd_T70 l0 x15_1).f0)) % 256, ji28] : List Int)) := ⟨_, rfl⟩
                      replace H : (if x4_2.length + y142.length < 140737488355328 then ((some (x4_2 ++ y142 : List Int)).bind fun y145 => (if 0 ≤ (ji28) then (if (ji28) ≤ (x7_2.length : Int) then ((some (x7_2.take ((ji28) : Int).toNat : List Int)).bind fun y148 => (if y145.length + y148.length < 140737488355328 then (tlv_Write.l1 k2 (y145 ++ y148) (x7_2.drop ((ji28) : Int).toNat) false l0 (l0.length : Int) x15_1 ((rd_T70 l0 x15_1).f0) ((rd_T70 l0 x15_1).f1)) else (none))) else (none)) else (none))) else (none)) = some (r1, r2) := by first | (rw [hy142]; with_reducible exact H) | (have H2_ := (Option.bind_some _ _).symm.trans H; rw [hy142]; with_reducible exact H2_) | (have H2_ := (Option.bind_some _ _).symm.trans H; with_reducible exact H2_) | with_reducible exact H | (rw [hy142]; exact H) | exact H
                      have Ny142 := Aside0.mk hy142
                      clear hy142
                      by_cases c29 : x4_2.length + y142.length < 140737488355328
                      · rw [if_pos c29] at H
                        have LMc29 := Aside0.mk c29
                        clear c29
                        obtain ⟨y145, hy145⟩ : ∃ y_ : List Int, y_ = (x4_2 ++ y142) := ⟨_, rfl⟩
                        replace H : (if 0 ≤ (ji28) then (if (ji28) ≤ (x7_2.length : Int) then ((some (x7_2.take ((ji28) : Int).toNat : List Int)).bind fun y148 => (if y145.length + y148.length < 140737488355328 then (tlv_Write.l1 k2 (y145 ++ y148) (x7_2.drop ((ji28) : Int).toNat) false l0 (l0.length : Int) x15_1 ((rd_T70 l0 x15_1).f0) ((rd_T70 l0 x15_1).f1)) else (none))) else (none)) else (none)) = some (r1, r2) := by first | (rw [hy145]; with_reducible exact H) | (have H2_ := (Option.bind_some _ _).symm.trans H; rw [hy145]; with_reducible exact H2_) | (have H2_ := (Option.bind_some _ _).symm.trans H; with_reducible exact H2_) | with_reducible exact H | (rw [hy145]; exact H) | exact H
                        have Ny145 := Aside0.mk hy145
                        clear hy145
                        by_cases c30 : 0 ≤ (ji28)
                        · rw [if_pos c30] at H
                          have c30b0 := eq_true c30
                          have c30b1 : decide (0 ≤ (ji28)) = true := decide_eq_true c30
                          clear c30
                          by_cases c31 : (ji28) ≤ (x7_2.length : Int)
                          · rw [if_pos c31] at H
                            have c31b0 := eq_true c31
                            have c31b1 : decide ((ji28) ≤ (x7_2.length : Int)) = true := decide_eq_true c31
                            clear c31
                            obtain ⟨y148, hy148⟩ : ∃ y_ : List Int, y_ = (x7_2.take ((ji28) : Int).toNat) := ⟨_, rfl⟩
                            replace H : (if y145.length + y148.length < 140737488355328 then (tlv_Write.l1 k2 (y145 ++ y148) (x7_2.drop ((ji28) : Int).toNat) false l0 (l0.length : Int) x15_1 ((rd_T70 l0 x15_1).f0) ((rd_T70 l0 x15_1).f1)) else (none)) = some (r1, r2) := by first | (rw [hy148]; with_reducible exact H) | (have H2_ := (Option.bind_some _ _).symm.trans H; rw [hy148]; with_reducible exact H2_) | (have H2_ := (Option.bind_some _ _).symm.trans H; with_reducible exact H2_) | with_reducible exact H | (rw [hy148]; exact H) | exact H
                            have Ny148 := Aside0.mk hy148
                            clear hy148
                            by_cases c32 : y145.length + y148.length < 140737488355328
                            · rw [if_pos c32] at H
                              have LMc32 := Aside0.mk c32
                              clear c32
                              obtain ⟨y153, hy153⟩ : ∃ y_ : List Int, y_ = (y145 ++ y148) := ⟨_, rfl⟩
                              replace H : (tlv_Write.l1 k2 y153 (x7_2.drop ((ji28) : Int).toNat) false l0 (l0.length : Int) x15_1 ((rd_T70 l0 x15_1).f0) ((rd_T70 l0 x15_1).f1)) = some (r1, r2) := by first | (rw [hy153]; with_reducible exact H) | (have H2_ := (Option.bind_some _ _).symm.trans H; rw [hy153]; with_reducible exact H2_) | (have H2_ := (Option.bind_some _ _).symm.trans H; with_reducible exact H2_) | with_reducible exact H | (rw [hy153]; exact H) | exact H
                              have Ny153 := Aside0.mk hy153
                              clear hy153
                              have c33b0 := eq_true (of_decide_eq_true (by first | (with_reducible assumption) | assumption) : 0 ≤ (ji28))
                              have c34b0 := eq_true (of_decide_eq_true (by first | (with_reducible assumption) | assumption) : (ji28) ≤ (x7_2.length : Int))
                              obtain ⟨y156, hy156⟩ : ∃ y_ : List Int, y_ = (x7_2.drop ((ji28) : Int).toNat) := ⟨_, rfl⟩
                              replace H : (tlv_Write.l1 k2 y153 y156 false l0 (l0.length : Int) x15_1 ((rd_T70 l0 x15_1).f0) ((rd_T70 l0 x15_1).f1)) = some (r1, r2) := by first | (rw [hy156]; with_reducible exact H) | (have H2_ := (Option.bind_some _ _).symm.trans H; rw [hy156]; with_reducible exact H2_) | (have H2_ := (Option.bind_some _ _).symm.trans H; with_reducible exact H2_) | with_reducible exact H | (rw [hy156]; exact H) | exact H
                              have Ny156 := Aside0.mk hy156
                              clear hy156
                              have H' := Aside0.mk H
                              clear H
                              obtain ⟨Ao35, co35, eo35⟩ := Kd.V_slice HO_7.out
                              subst eo35
                              try go_wp2
                              have n0_ := Aside0.mk (Kd.R_drew HO_4.out)
                              have n1_ := Aside0.mk (Kd.V_drew HO_7.out)
                              have n2_ := Aside0.mk (Kd.V_drew HO_13.out)
                              have n3_ := Aside0.mk (blk_drew BK122.out)
                              have n4_ := Aside0.mk (below_drew1 HB.out)
                              clear HO_4
                              clear HO_7
                              clear HO_13
                              clear BK122
                              clear HB
                              have HO_4 := n0_
                              have HO_7 := n1_
                              have HO_13 := n2_
                              have BK122 := n3_
                              have HB := n4_
                              clear n0_ n1_ n2_ n3_ n4_
                              have q37 : ((ji28) : Int) ≤ ((x7_2.length : Int) : Int) := of_decide_eq_true (by first | (with_reducible assumption) | assumption)
                              obtain ⟨i037, hi037, _, hsz37, _⟩ := info_parts info5
                              have hroom37 : x7_2.length ≤ co35 := (Kd.V_reads' HO_7.out).2.1
                              have hC37 : Kd.F (Kd.int .u8) _ _ Ao35 x7_2.length x7_2 := (Kd.V_at (base := w.heap.size) HO_7.out).2.2
                              have hcut37 := cut_to (P := Try.prog) 25 5 .i64 Try.underlying25 hi037 Ao35 x7_2.length co35 (ji28) (of_decide_eq_true (by first | (with_reducible assumption) | assumption)) q37 hroom37
                              have hr37 := Kd.F_take (m := ((ji28) : Int).toNat) hC37 (by omega)
                              have hy37 : y148.length = ((ji28) : Int).toNat := (by rw [Ny148.out, List.length_take]; omega)
                              rw [← Ny148.out] at hr37
                              rw [← hy37] at hcut37
                              have HO152 := Aside0.mk (show Kd.V (Kd.int .u8) 5 _ w.heap.size _ (.slice Ao35 y148.length co35) y148 from Kd.V_mk (by omega) hr37)
                              have HC152 := Aside0.mk (show y148.length ≤ co35 from by omega)
                              clear hr37 hC37 hroom37 hi037 hsz37
                              have KY37 := Aside0.mk hy37
                              clear hy37
                              replace q37 := eq_true q37
                              refine start_ (n := 13) (S := fun w' => w'.cell? ⟨gb122, 0, none⟩ = some (.int .i64 ((rd_T70 l0 x15_1).f0)) ∧ w'.cell? ⟨gb122, 1, none⟩ = some (.slice A121_1 ((rd_T70 l0 x15_1).f1).length c121_1)) (ds := []) #[false, false, false, false, false, false, false, false, false, false, false, false, false] (by kernel_rfl) rfl rfl ⟨(blk_cell BK122.out 0).trans rfl, (blk_cell BK122.out 1).trans rfl⟩ (fun hHeld => ?_); refine with_tabW tlv_Write.tab12 tlv_Write.bits12 (fun HT_ HW_ => ?_)
                              generalize wr.drew = w36 at HO_4 HO_7 HO_13 BK122 HB HO152 hHeld ⊢
                              refine pure_ (i := 0) (N := some 30) (v := ?_) (a' := ?_) #[true, false, false, false, false, false, false, false, false, false, false, false, false] rfl rfl (any_of HT_.out (by kernel_rfl)) (fun _ _ _ h => h) (Or.inl ⟨by rfl, ?_⟩) ?_ ?_
                              rotate_left
                              · intro w'
                                go_simp
                                with_reducible rfl
                              rotate_left
                              · simp only [Act.put, List.setIfInBounds_toArray, List.set_cons_zero, List.set_cons_succ, i64_w, i32_w]
                                rfl
                              refine pure_ (i := 1) (N := some 31) (v := ?_) (a' := ?_) #[true, true, false, false, false, false, false, false, false, false, false, false, false] rfl rfl (any_of HT_.out (by kernel_rfl)) (fun _ _ _ h => h) (Or.inl ⟨by rfl, ?_⟩) ?_ ?_
                              rotate_left
                              · intro w'
                                go_simp
                                with_reducible rfl
                              rotate_left
                              · simp only [Act.put, List.setIfInBounds_toArray, List.set_cons_zero, List.set_cons_succ, i64_w, i32_w]
                                rfl
                              refine pure_ (i := 4) (N := some 34) (v := ?_) (a' := ?_) #[true, true, false, false, true, false, false, false, false, false, false, false, false] rfl rfl (any_of HT_.out (by kernel_rfl)) (fun _ _ _ h => h) (Or.inl ⟨by rfl, ?_⟩) ?_ ?_
                              rotate_left
                              · intro w'
                                go_simp
                                with_reducible rfl
                              rotate_left
                              · simp only [Act.put, List.setIfInBounds_toArray, List.set_cons_zero, List.set_cons_succ, i64_w, i32_w]
                                rfl
                              refine pure_ (i := 5) (N := some 35) (v := ?_) (a' := ?_) #[true, true, false, false, true, true, false, false, false, false, false, false, false] rfl rfl (any_of HT_.out (by kernel_rfl)) (fun _ _ _ h => h) (Or.inl ⟨by rfl, ?_⟩) ?_ ?_
                              rotate_left
                              · intro w'
                                go_simp
                                with_reducible rfl
                              rotate_left
                              · simp only [Act.put, List.setIfInBounds_toArray, List.set_cons_zero, List.set_cons_succ, i64_w, i32_w]
                                rfl
                              refine pure_ (i := 8) (N := some 38) (v := ?_) (a' := ?_) #[true, true, false, false, true, true, false, false, true, false, false, false, false] rfl rfl (any_of HT_.out (by kernel_rfl)) (fun _ _ _ h => h) (Or.inl ⟨by rfl, ?_⟩) ?_ ?_
                              rotate_left
                              · intro w'
                                go_simp
                                with_reducible rfl
                              rotate_left
                              · simp only [Act.put, List.setIfInBounds_toArray, List.set_cons_zero, List.set_cons_succ, i64_w, i32_w]
                                rfl
                              refine pure_ (i := 9) (N := some 39) (v := ?_) (a' := ?_) #[true, true, false, false, true, true, false, false, true, true, false, false, false] rfl rfl (any_of HT_.out (by kernel_rfl)) (fun _ _ _ h => h) (Or.inl ⟨by rfl, ?_⟩) ?_ ?_
                              rotate_left
                              · intro w'
                                go_simp
                                with_reducible rfl
                              rotate_left
                              · simp only [Act.put, List.setIfInBounds_toArray, List.set_cons_zero, List.set_cons_succ, i64_w, i32_w]
                                rfl
                              refine pure_ (i := 10) (N := some 40) (v := ?_) (a' := ?_) #[true, true, false, false, true, true, false, false, true, true, true, false, false] rfl rfl (any_of HT_.out (by kernel_rfl)) (fun _ _ _ h => h) (Or.inl ⟨by rfl, ?_⟩) ?_ ?_
                              rotate_left
                              · intro w'
                                go_simp
                                with_reducible rfl
                              rotate_left
                              · simp only [Act.put, List.setIfInBounds_toArray, List.set_cons_zero, List.set_cons_succ, i64_w, i32_w]
                                rfl
                              refine take_ (i := 2) (N := some 32) (v := ?_) (a' := ?_) #[true, true, true, false, true, true, false, false, true, true, true, false, false] rfl rfl (take_ofW HT_.out HW_.out (by kernel_rfl)) (fun _ _ _ h => h) (Or.inl ⟨by rfl, ?_⟩) hHeld ?_ ?_
                              rotate_left
                              · rintro w' ⟨s0, s1⟩
                                go_simp
                                with_reducible rfl
                              rotate_left
                              · simp only [Act.put, List.setIfInBounds_toArray, List.set_cons_zero, List.set_cons_succ, i64_w, i32_w]
                                rfl
                              refine pure_ (i := 3) (N := some 33) (v := ?_) (a' := ?_) #[true, true, true, true, true, true, false, false, true, true, true, false, false] rfl rfl (any_of HT_.out (by kernel_rfl)) (fun _ _ _ h => h) (Or.inl ⟨by rfl, ?_⟩) ?_ ?_
                              rotate_left
                              · intro w'
                                go_simp
                                with_reducible rfl
                              rotate_left
                              · simp only [Act.put, List.setIfInBounds_toArray, List.set_cons_zero, List.set_cons_succ, i64_w, i32_w]
                                rfl
                              refine one_ (i := 6) (N := some 36) #[true, true, true, true, true, true, true, false, true, true, true, false, false] rfl rfl (one_of HT_.out (by kernel_rfl)) (by decide) (fun K hK => ?_)
                              refine Kd.R_lit_step (Kd.int .u8) _ 5 ?hg (N := 36) ?hd (xs := ([(((rd_T70 l0 x15_1).f0)) % 256, ji28] : List Int)) (inner := [.int .u8 ((((rd_T70 l0 x15_1).f0)) % 256), .int .u8 ji28]) (ok := fun _ => True) (okp := fun _ => True) ?hr ?hp (fun _ hk => hk) trivial (Below.refl _ _) (Nat.le_refl _) (by simp) ?_; (case hd => rfl); (case hg => rfl); (case hr => first | (go_simp; done) | (go_simp; rfl) | (go_simp; (try simp only [u8_w, u32_w]); (try rw [show (ji28) % 256 = ji28 from by omega]); first | done | rfl)); (case hp => exact (Reps.one (show Kd.M (Kd.int .u8) _ _ _ ((((rd_T70 l0 x15_1).f0)) % 256) [.int .u8 ((((rd_T70 l0 x15_1).f0)) % 256)] from rfl) (Reps.one (show Kd.M (Kd.int .u8) _ _ _ ji28 [.int .u8 ji28] from rfl) (Reps.none _ _))))
                              intro v143 w38 ho39 hb hg_ hnew_
                              clear hg_ hnew_
                              (first | rw [← Ny142.out] at ho39 | (simp only [Int.reduceToNat] at ho39; rw [← Ny142.out] at ho39))
                              have n0_ := Aside0.mk (Kd.R_elder' (by (with_reducible repeat (first | apply Kd.R_alloc | apply Kd.R_drewN | apply Kd.R_drew)); exact HO_4.out) (Kd.R_base ho39) hb)
                              have n1_ := Aside0.mk (Kd.V_elder' (by (with_reducible repeat (first | apply Kd.V_alloc | apply Kd.V_drewN | apply Kd.V_drew)); exact HO_7.out) (Kd.R_base ho39) hb)
                              have n2_ := Aside0.mk (Kd.V_elder' (by (with_reducible repeat (first | apply Kd.V_alloc | apply Kd.V_drewN | apply Kd.V_drew)); exact HO_13.out) (Kd.R_base ho39) hb)
                              have n3_ := Aside0.mk (Kd.V_elder' (by (with_reducible repeat (first | apply Kd.V_alloc | apply Kd.V_drewN | apply Kd.V_drew)); exact HO152.out) (Kd.R_base ho39) hb)
                              have n4_ := Aside0.mk (Kd.R_lower (Kd.R_new' (Kd.R_newM (M := fun k_ => (w.heap.size ≤ k_)) ho39 (below_size (by repeat (first | (with_reducible first | exact HB.out | apply below_alloc | apply pw_below_drewN | apply below_drew1 | refine below_set ?_ GE122.out) | exact HB.out))) (fun k_ h_ => h_)) (Kd.R_lt (by (with_reducible repeat (first | apply Kd.R_alloc | apply Kd.R_drewN | apply Kd.R_drew)); exact HO_4.out))) (below_size (by repeat (first | (with_reducible first | exact HB.out | apply below_alloc | apply pw_below_drewN | apply below_drew1 | refine below_set ?_ GE122.out) | exact HB.out))))
                              have n5_ := Aside0.mk (blk_below (g := gb122) (o := .cells #[.int .i64 ((rd_T70 l0 x15_1).f0), .slice A121_1 ((rd_T70 l0 x15_1).f1).length c121_1] 70 (0, 0)) (by (with_reducible repeat (first | refine blk_drewN ?_ _ | refine blk_drew ?_ | refine blk_alloc ?_ _)); exact BK122.out) hb)
                              have n6_ := Aside0.mk (below_step (by repeat (first | (with_reducible first | exact HB.out | apply below_alloc | apply pw_below_drewN | apply below_drew1 | refine below_set ?_ GE122.out) | exact HB.out)) hb)
                              clear HO_4
                              clear HO_7
                              clear HO_13
                              clear HO152
                              clear BK122
                              clear HB
                              have HO_4 := n0_
                              have HO_7 := n1_
                              have HO_13 := n2_
                              have HO152 := n3_
                              have HO144 := n4_
                              have BK122 := n5_
                              have HB := n6_
                              clear n0_ n1_ n2_ n3_ n4_ n5_ n6_
                              clear hb ho39
                              obtain ⟨Ao41, co41, eo41⟩ := Kd.R_slice HO144.out
                              (first | subst eo41 | (injection eo41 with f1_ f2_ f3_; have f4_ := f1_.symm; have f5_ := f3_.symm; clear f1_ f2_ f3_; subst f4_; subst f5_))
                              refine hK.out _ _ ⟨(blk_cell BK122.out 0).trans rfl, (blk_cell BK122.out 1).trans rfl⟩ (fun hHeld => ?_)
                              clear hK K
                              refine norm_ (a' := ?_) ?_ ?_
                              rotate_left
                              · show Act.put _ (some 36) _ = _
                                simp only [Act.put, List.setIfInBounds_toArray, List.set_cons_zero, List.set_cons_succ, i64_w, i32_w]
                                rfl
                              refine one_ (i := 7) (N := some 37) #[true, true, true, true, true, true, true, true, true, true, true, false, false] rfl rfl (one_of HT_.out (by kernel_rfl)) (by decide) (fun K hK => ?_)
                              refine Kd.R_append_rows_step (Kd.int .u8) (w0 := w) w.heap.size (by rfl) (.tmp 30) (.tmp 36) 25 5 (.int .u8 0) 1 rfl Try.underlying25 info5 rfl (by decide) (by omega) u4 x4_2 y142 _ _ _ (fun k_ => (w.heap.size ≤ k_) ∧ some k_ ≠ (.slice Ao41 y142.length co41 : Value).ownBlock) (fun _ => False) rfl rfl ?aO ?aR (fun _ _ h => h) (fun _ h => h.elim) ?aF ?aB ?aS ?aL ?_
                              (case aR => repeat (first | exact (Kd.R_reads' HO144.out).2.2 | (with_reducible refine Kd.C_alloc ?_ _) | (with_reducible refine Kd.C_drewN ?_ _) | (with_reducible refine Kd.C_drew ?_)))
                              (case aB => exact (by repeat (first | (with_reducible first | exact HB.out | apply below_alloc | apply pw_below_drewN | apply below_drew1 | refine below_set ?_ GE122.out) | exact HB.out)))
                              (case aF => exact (fun k_ hk => ⟨(Nat.le_trans (below_size (by repeat (first | (with_reducible first | exact HB.out | apply below_alloc | apply pw_below_drewN | apply below_drew1 | refine below_set ?_ GE122.out) | exact HB.out))) hk), Kd.fresh' (Kd.R_lt (by (with_reducible repeat (first | apply Kd.R_alloc | apply Kd.R_drewN | apply Kd.R_drew)); exact HO144.out)) k_ hk⟩))
                              (case aO => exact (by (with_reducible repeat (first | apply Kd.R_alloc | apply Kd.R_drewN | apply Kd.R_drew)); exact HO_4.out))
                              (case aS => exact (below_size (by repeat (first | (with_reducible first | exact HB.out | apply below_alloc | apply pw_below_drewN | apply below_drew1 | refine below_set ?_ GE122.out) | exact HB.out))))
                              (case aL => have := LMc29.out; omega)
                              intro v146 w40 ho hb hg hat
                              rw [← Ny145.out] at ho
                              have n0_ := Aside0.mk (Kd.V_afterv (ok := (fun k_ => (P0_ k_ ∨ w.heap.size ≤ k_) ∧ some k_ ≠ (.slice Ao41 y142.length co41 : Value).ownBlock ∧ k_ ≠ gb122)) (by (with_reducible repeat (first | apply Kd.V_alloc | apply Kd.V_drewN | apply Kd.V_drew)); exact Kd.V_mono HO_7.out (fun _ hk => ⟨⟨hk.1.1, ⟨hk.2, hk.1.2.2⟩⟩, hk.1.2.1⟩)) hg hat)
                              have n1_ := Aside0.mk (Kd.V_afterv (ok := (fun k_ => (P0_ k_ ∨ w.heap.size ≤ k_) ∧ some k_ ≠ (.slice Ao41 y142.length co41 : Value).ownBlock ∧ k_ ≠ gb122)) (by (with_reducible repeat (first | apply Kd.V_alloc | apply Kd.V_drewN | apply Kd.V_drew)); exact Kd.V_mono HO_13.out (fun _ hk => ⟨⟨hk.1.1, ⟨hk.2, hk.1.2.2⟩⟩, hk.1.2.1⟩)) hg hat)
                              have n2_ := Aside0.mk (blk_grown (g := gb122) (o := .cells #[.int .i64 ((rd_T70 l0 x15_1).f0), .slice A121_1 ((rd_T70 l0 x15_1).f1).length c121_1] 70 (0, 0)) (by (with_reducible repeat (first | refine blk_drewN ?_ _ | refine blk_drew ?_ | refine blk_alloc ?_ _)); exact BK122.out) hg (Kd.R_ne HO_4.out BK122.out (by decide)))
                              have n3_ := Aside0.mk (Kd.V_afterv (ok := (fun k_ => (P0_ k_ ∨ w.heap.size ≤ k_) ∧ some k_ ≠ (.slice Ao41 y142.length co41 : Value).ownBlock ∧ k_ ≠ gb122)) (by (with_reducible repeat (first | apply Kd.V_alloc | apply Kd.V_drewN | apply Kd.V_drew)); exact Kd.V_mono HO152.out (fun _ hk => ⟨⟨hk.1.1, ⟨hk.2, hk.1.2.2⟩⟩, hk.1.2.1⟩)) hg hat)
                              have n4_ := Aside0.mk (Kd.R_after (ok := (fun k_ => (w.heap.size ≤ k_))) (by (with_reducible repeat (first | apply Kd.R_alloc | apply Kd.R_drewN | apply Kd.R_drew)); exact Kd.R_mono HO144.out (fun _ hk => ⟨hk.1.1, hk.2⟩)) hg hat)
                              have n5_ := Aside0.mk (hb)
                              have n6_ := Aside0.mk (ho)
                              clear HO_7
                              clear HO_13
                              clear BK122
                              clear HO152
                              clear HO144
                              clear HB
                              clear HO_4
                              have HO_7 := n0_
                              have HO_13 := n1_
                              have BK122 := n2_
                              have HO152 := n3_
                              have HO144 := n4_
                              have HB := n5_
                              have HO147 := n6_
                              clear n0_ n1_ n2_ n3_ n4_ n5_ n6_
                              clear ho hb hg hat
                              refine hK.out _ _ ⟨(blk_cell BK122.out 0).trans rfl, (blk_cell BK122.out 1).trans rfl⟩ (fun hHeld => ?_)
                              clear hK K
                              refine norm_ (a' := ?_) ?_ ?_
                              rotate_left
                              · show Act.put _ (some 37) _ = _
                                simp only [Act.put, List.setIfInBounds_toArray, List.set_cons_zero, List.set_cons_succ, i64_w, i32_w]
                                rfl
                              refine one_ (i := 11) (N := some 41) #[true, true, true, true, true, true, true, true, true, true, true, true, false] rfl rfl (one_of HT_.out (by kernel_rfl)) (by decide) (fun K hK => ?_)
                              refine Kd.R_append_rows_step (Kd.int .u8) (w0 := w) w.heap.size (by rfl) (.tmp 37) (.tmp 40) 25 5 (.int .u8 0) 1 rfl Try.underlying25 info5 rfl (by decide) (by omega) v146 y145 y148 _ _ _ (fun k_ => (w.heap.size ≤ k_) ∧ some k_ ≠ (.slice Ao41 y142.length co41 : Value).ownBlock) (fun _ => False) rfl rfl ?aO ?aR (fun _ _ h => h) (fun _ h => h.elim) ?aF ?aB ?aS ?aL ?_
                              (case aR => repeat (first | exact (Kd.V_reads' HO152.out).2.2 | (with_reducible refine Kd.C_alloc ?_ _) | (with_reducible refine Kd.C_drewN ?_ _) | (with_reducible refine Kd.C_drew ?_)))
                              (case aB => exact (by repeat (first | (with_reducible first | exact HB.out | apply below_alloc | apply pw_below_drewN | apply below_drew1 | refine below_set ?_ GE122.out) | exact HB.out)))
                              (case aF => exact (fun k_ hk => ⟨(Nat.le_trans (below_size (by repeat (first | (with_reducible first | exact HB.out | apply below_alloc | apply pw_below_drewN | apply below_drew1 | refine below_set ?_ GE122.out) | exact HB.out))) hk), Kd.fresh' (Kd.R_lt (by (with_reducible repeat (first | apply Kd.R_alloc | apply Kd.R_drewN | apply Kd.R_drew)); exact HO144.out)) k_ hk⟩))
                              (case aO => exact (by (with_reducible repeat (first | apply Kd.R_alloc | apply Kd.R_drewN | apply Kd.R_drew)); exact HO147.out))
                              (case aS => exact (below_size (by repeat (first | (with_reducible first | exact HB.out | apply below_alloc | apply pw_below_drewN | apply below_drew1 | refine below_set ?_ GE122.out) | exact HB.out))))
                              (case aL => have := LMc32.out; omega)
                              intro v154 w42 ho hb hg hat
                              rw [← Ny153.out] at ho
                              have n0_ := Aside0.mk (Kd.V_afterv (ok := (fun k_ => (P0_ k_ ∨ w.heap.size ≤ k_) ∧ some k_ ≠ (.slice Ao41 y142.length co41 : Value).ownBlock ∧ k_ ≠ gb122)) (by (with_reducible repeat (first | apply Kd.V_alloc | apply Kd.V_drewN | apply Kd.V_drew)); exact HO_7.out) hg hat)
                              have n1_ := Aside0.mk (Kd.V_afterv (ok := (fun k_ => (P0_ k_ ∨ w.heap.size ≤ k_) ∧ some k_ ≠ (.slice Ao41 y142.length co41 : Value).ownBlock ∧ k_ ≠ gb122)) (by (with_reducible repeat (first | apply Kd.V_alloc | apply Kd.V_drewN | apply Kd.V_drew)); exact HO_13.out) hg hat)
                              have n2_ := Aside0.mk (blk_grown (g := gb122) (o := .cells #[.int .i64 ((rd_T70 l0 x15_1).f0), .slice A121_1 ((rd_T70 l0 x15_1).f1).length c121_1] 70 (0, 0)) (by (with_reducible repeat (first | refine blk_drewN ?_ _ | refine blk_drew ?_ | refine blk_alloc ?_ _)); exact BK122.out) hg (Kd.R_ne HO147.out BK122.out (by decide)))
                              have n3_ := Aside0.mk (Kd.V_afterv (ok := (fun k_ => (P0_ k_ ∨ w.heap.size ≤ k_) ∧ some k_ ≠ (.slice Ao41 y142.length co41 : Value).ownBlock ∧ k_ ≠ gb122)) (by (with_reducible repeat (first | apply Kd.V_alloc | apply Kd.V_drewN | apply Kd.V_drew)); exact HO152.out) hg hat)
                              have n4_ := Aside0.mk (Kd.R_after (ok := (fun k_ => (w.heap.size ≤ k_))) (by (with_reducible repeat (first | apply Kd.R_alloc | apply Kd.R_drewN | apply Kd.R_drew)); exact HO144.out) hg hat)
                              have n5_ := Aside0.mk (hb)
                              have n6_ := Aside0.mk (ho)
                              clear HO_7
                              clear HO_13
                              clear BK122
                              clear HO152
                              clear HO144
                              clear HB
                              clear HO147
                              have HO_7 := n0_
                              have HO_13 := n1_
                              have BK122 := n2_
                              have HO152 := n3_
                              have HO144 := n4_
                              have HB := n5_
                              have HO155 := n6_
                              clear n0_ n1_ n2_ n3_ n4_ n5_ n6_
                              clear ho hb hg hat
                              refine hK.out _ _ ⟨(blk_cell BK122.out 0).trans rfl, (blk_cell BK122.out 1).trans rfl⟩ (fun hHeld => ?_)
                              clear hK K
                              refine norm_ (a' := ?_) ?_ ?_
                              rotate_left
                              · show Act.put _ (some 41) _ = _
                                simp only [Act.put, List.setIfInBounds_toArray, List.set_cons_zero, List.set_cons_succ, i64_w, i32_w]
                                rfl
                              refine pure_ (i := 12) (N := some 4) (v := ?_) (a' := ?_) #[true, true, true, true, true, true, true, true, true, true, true, true, true] rfl rfl (any_of HT_.out (by kernel_rfl)) (fun _ _ _ h => h) (Or.inl ⟨by rfl, ?_⟩) ?_ ?_
                              rotate_left
                              · intro w'
                                go_simp
                                with_reducible rfl
                              rotate_left
                              · simp only [Act.put, List.setIfInBounds_toArray, List.set_cons_zero, List.set_cons_succ, i64_w, i32_w]
                                rfl
                              refine done_ (done_of HT_.out (by kernel_rfl)) ?_
                              have q43 : ((ji28) : Int) ≤ ((x7_2.length : Int) : Int) := of_decide_eq_true (by first | (with_reducible assumption) | assumption)
                              obtain ⟨i043, hi043, _, hsz43, _⟩ := info_parts info5
                              have hroom43 : x7_2.length ≤ co35 := (Kd.V_reads' HO_7.out).2.1
                              have hC43 : Kd.F (Kd.int .u8) _ _ Ao35 x7_2.length x7_2 := (Kd.V_at (base := w.heap.size) HO_7.out).2.2
                              have q043 : (0 : Int) ≤ ((ji28) : Int) := of_decide_eq_true (by first | (with_reducible assumption) | assumption)
                              have hcut43 := cut_from (P := Try.prog) 25 5 .i64 Try.underlying25 hi043 1 hsz43 Ao35 x7_2.length co35 (ji28) q043 q43
                              have hr43 := Kd.F_cut (m := ((ji28) : Int).toNat) (c := co35) hC43 (by omega) hroom43
                              obtain ⟨A43, hA43⟩ : ∃ A1, A1 = (if co35 = ((ji28) : Int).toNat then Ao35 else (Ao35 : Option Addr).map (·.add (((ji28) : Int).toNat * 1))) := ⟨_, rfl⟩
                              obtain ⟨c43, hc43⟩ : ∃ c1, c1 = co35 - ((ji28) : Int).toNat := ⟨_, rfl⟩
                              have hy43 : y156.length = x7_2.length - ((ji28) : Int).toNat := (by rw [Ny156.out, List.length_drop] <;> omega)
                              rw [show (x7_2).drop ((ji28) : Int).toNat = y156 from Ny156.out.symm] at hr43
                              replace hr43 : Kd.F (Kd.int .u8) _ _ A43 y156.length y156 := (by rw [hA43]; exact hr43)
                              rw [← hy43, ← hA43, ← hc43] at hcut43
                              have HO160 := Aside0.mk (show Kd.V (Kd.int .u8) 5 _ w.heap.size _ (.slice A43 y156.length c43) y156 from Kd.V_mk (by rw [hy43, hc43]; exact Nat.sub_le_sub_right hroom43 _) hr43)
                              have HC160 := Aside0.mk (show y156.length ≤ c43 from by rw [hy43, hc43]; exact Nat.sub_le_sub_right hroom43 _)
                              clear hr43 hC43 hroom43 hi043 hsz43 hc43
                              have KY43 := Aside0.mk hy43
                              have KA43 := Aside0.mk hA43
                              clear hy43 hA43
                              replace q43 := eq_true q43
                              try go_wp2
                              go_roundg k2
                              case measure => have := HK1.out; have := HK2.out; omega
                              case rel => exact ⟨(y153), (y156), (false), (by first | rfl | (simp; done) | (simp [*]; done)), H', ⟨by have := HK1.out; have := HK2.out; omega⟩, ⟨by (with_reducible repeat (first | apply Kd.R_alloc | apply Kd.R_drewN | apply Kd.R_drew)); exact Kd.R_mono HO155.out (fun _ hk => hk.1)⟩, ⟨by (with_reducible repeat (first | apply Kd.V_alloc | apply Kd.V_drewN | apply Kd.V_drew)); exact Kd.V_mono HO160.out (fun _ hk => ⟨hk.1.1, ⟨hk.2, hk.1.2.2⟩⟩)⟩, ⟨by (with_reducible repeat (first | apply Kd.V_alloc | apply Kd.V_drewN | apply Kd.V_drew)); exact Kd.V_mono HO_13.out (fun _ hk => ⟨hk.1.1, ⟨hk.2, hk.1.2.2⟩⟩)⟩, ⟨by (with_reducible repeat (first | refine blk_drewN ?_ _ | refine blk_drew ?_ | refine blk_alloc ?_ _)); exact BK122.out⟩, ⟨by repeat (first | (with_reducible first | exact HB.out | apply below_alloc | apply pw_below_drewN | apply below_drew1 | refine below_set ?_ GE122.out) | exact HB.out)⟩⟩
                            · rw [if_neg c32] at H
                              exact absurd H (by simp)
                          · rw [if_neg c31] at H
                            exact absurd H (by simp)
                        · rw [if_neg c30] at H
                          exact absurd H (by simp)
                      · rw [if_neg c29] at H
                        exact absurd H (by simp)
                    · rw [if_neg c27] at H
                      have c27b0 : decide (0 < (x7_2.length : Int)) = false := decide_eq_false c27
                      have c27b1 : decide (0 < x7_2.length) = false := decide_eq_false (by omega)
                      clear c27
                      have H' := Aside0.mk H
                      clear H
                      obtain ⟨Ao44, co44, eo44⟩ := Kd.V_slice HO_7.out
                      subst eo44
                      go_wp2
                      go_roundg k2
                      case measure => have := HK1.out; have := HK2.out; omega
                      case rel => exact ⟨(x4_2), (wrap64 (x15_1 + 1)), (by first | rfl | (simp; done) | (simp [*]; done)), H', ⟨by have := HK1.out; have := HK2.out; omega⟩, ⟨by (with_reducible repeat (first | apply Kd.R_alloc | apply Kd.R_drewN | apply Kd.R_drew)); exact HO_4.out⟩, ⟨by (with_reducible repeat (first | apply Kd.V_alloc | apply Kd.V_drewN | apply Kd.V_drew)); exact Kd.V_mono HO_13.out (fun _ hk => ⟨hk.1, hk.2.1⟩)⟩, ⟨by repeat (first | (with_reducible first | exact HB.out | apply below_alloc | apply pw_below_drewN | apply below_drew1 | refine below_set ?_ GE122.out) | exact HB.out)⟩⟩
            · rw [if_neg c7] at H
              exact absurd H (by simp)
          · rw [if_neg c6] at H
            exact absurd H (by simp)
        · rw [if_neg c5] at H
          have c5b0 : decide (x15_1 < (l0.length : Int)) = false := decide_eq_false c5
          clear c5
          by_cases c45 : x4_1.length < 140737488355328
          · rw [if_pos c45] at H
            have LMc45 := Aside0.mk c45
            clear c45
            obtain ⟨y118, hy118⟩ : ∃ y_ : List Int, y_ = (x4_1 ++ [255]) := ⟨_, rfl⟩
            replace H : (some (y118, 0)) = some (r1, r2) := by first | (rw [hy118]; with_reducible exact H) | (have H2_ := (Option.bind_some _ _).symm.trans H; rw [hy118]; with_reducible exact H2_) | (have H2_ := (Option.bind_some _ _).symm.trans H; with_reducible exact H2_) | with_reducible exact H | (rw [hy118]; exact H) | exact H
            have Ny118 := Aside0.mk hy118
            clear hy118
            simp only [Option.some.injEq, Prod.mk.injEq] at H
            obtain ⟨rfl, rfl⟩ := H
            go_wp2_with (first | ((with_reducible refine gate_builtin (b := .append) (xs := #[.tmp 46, .tmp 47]) rfl ?_); (try (refine gate_guard (by rfl) ?_; dsimp only)); at_builtin; refine Kd.R_append (Kd.int .u8) (w0 := w) w.heap.size rfl (.tmp 46) (.tmp 47) 25 5 (.int .u8 0) 1 rfl Try.underlying25 info5 rfl (by decide) (by omega) u4 x4_1 255 [.int .u8 255] (fun k_ => (w.heap.size ≤ k_)) (fun _ => False) rfl rfl ?aP (fun _ hk => hk.elim) ?aF ?aO ?aB ?aS ?aL ?_; (case aP => exact rfl); (case aB => exact (by repeat (first | (with_reducible first | exact HB.out | apply below_alloc | apply pw_below_drewN | apply below_drew1) | exact HB.out))); (case aF => exact (fun k_ hk => (Nat.le_trans (below_size (by repeat (first | (with_reducible first | exact HB.out | apply below_alloc | apply pw_below_drewN | apply below_drew1) | exact HB.out))) hk))); (case aO => exact (by (with_reducible repeat (first | apply Kd.R_alloc | apply Kd.R_drewN | apply Kd.R_drew)); exact HO_4.out)); (case aS => exact (below_size (by repeat (first | (with_reducible first | exact HB.out | apply below_alloc | apply pw_below_drewN | apply below_drew1) | exact HB.out)))); (case aL => have := LMc45.out; omega); intro v119 w46 ho hb hg hat; rw [← Ny118.out] at ho; have n0_ := Aside0.mk (Kd.V_afterv (ok := (fun k_ => (P0_ k_ ∨ w.heap.size ≤ k_))) (by (with_reducible repeat (first | apply Kd.V_alloc | apply Kd.V_drewN | apply Kd.V_drew)); exact HO_13.out) hg hat); have n1_ := Aside0.mk (hb); have n2_ := Aside0.mk (ho); clear HO_13; clear HB; clear HO_4; have HO_13 := n0_; have HB := n1_; have HO120 := n2_; clear n0_ n1_ n2_; clear ho hb hg hat))
            go_ret2
            exact ⟨_, by first | rfl | (simp [errW_none, errW_some] <;> rfl) | (simp [*, errW_none, errW_some] <;> rfl), by (with_reducible repeat (first | apply Kd.R_alloc | apply Kd.R_drewN | apply Kd.R_drew)); exact HO120.out, by repeat (first | (with_reducible first | exact HB.out | apply below_alloc | apply pw_below_drewN | apply below_drew1) | exact HB.out)⟩
          · rw [if_neg c45] at H
            exact absurd H (by simp)
  · replace c3 := Bool.eq_false_iff.mpr c3
    subst c3
    have H1 : (some (([] : List Int), 1)) = some (r1, r2) := by rw [if_neg (show ¬ (false = true) by decide)] at H; exact H
    clear H
    have H := H1
    clear H1
    simp only [Option.some.injEq, Prod.mk.injEq] at H
    obtain ⟨rfl, rfl⟩ := H
    go_enter Try.func25, Try.ntmps25
    go_wp2_with (first | ((with_reducible refine gate_callee (f := 23) rfl ?_); refine goesL_ (some 11) rfl rfl Try.func23 (by kernel_rfl) rfl #[.slice A0 l0.length c0] rfl (by (try simp only [List.map_toArray, List.map_cons, List.map_nil]); first | done | rfl | (simp only [List.length_drop, List.length_take]; rfl)) ?_; (with_reducible refine (tlv_Right.calls k _ _ l0 false _ ?side1 ?side2 A2.out).mono ?_); (case side1 => repeat (first | exact (Kd.V_reads' HO0.out).2.2 | (with_reducible refine Kd.C_alloc ?_ _) | (with_reducible refine Kd.C_drewN ?_ _) | (with_reducible refine Kd.C_drew ?_))); (case side2 => exact (Kd.V_reads' HO0.out).2.1); rintro e w47 ⟨rfl, hb⟩; refine ⟨_, rfl, ?_⟩; have n0_ := Aside0.mk (Kd.V_below (by (with_reducible repeat (first | apply Kd.V_alloc | apply Kd.V_drewN | apply Kd.V_drew)); exact HO0.out) hb); have n1_ := Aside0.mk (below_step (by repeat (first | (with_reducible first | exact HB.out | apply below_alloc | apply pw_below_drewN | apply below_drew1) | exact HB.out)) hb); clear HO0; clear HB; have HO0 := n0_; have HB := n1_; clear n0_ n1_; (try clear hb); (try clear hb2); (try clear hk); (try clear hi)))
    go_ret2
    exact ⟨_, by first | rfl | (simp [errW_none, errW_some] <;> rfl) | (simp [*, errW_none, errW_some] <;> rfl), by first | exact Kd.R_nil _ _ _ _ _ | exact Kd.N_nil _ _ _ _ _ | exact Kd.V_nil _ _ _ _ _ | exact Kd.Q_nil _ _ _ _ _ | exact Kd.S_nil _ _ _ _ _, by repeat (first | (with_reducible first | exact HB.out | apply below_alloc | apply pw_below_drewN | apply below_drew1) | exact HB.out)⟩

end Go.Proofs.Ytiklcnlehlpdaaa.PTlj
