-- printed by a program of this session, made after the kit's own printer
import Derived.Test.YtiklcnlehlpdaaaPTljx0
import Derived.Test.YtiklcnlehlpdaaaPTljx1
import Derived.Test.YtiklcnlehlpdaaaPTljx3
namespace Go.Proofs.Ytiklcnlehlpdaaa.PTlj
open Go.RowKit Go.Proofs.YtiklcnlehlpdaaaW.PrintWords Go.Proofs.YtiklcnlehlpdaaaW.PrintLast Go.Proofs.YtiklcnlehlpdaaaW.PrintMore
attribute [local go_sem] max2_int min2_int max_two min_two max_three min_three max_four min_four   -- for this text's walks alone
set_option linter.unusedVariables false
set_option linter.unusedSimpArgs false

/-! ### tlv_Read: function 27 -/
mutual
def tlv_Read.l0 : Nat → List Int → List (S70) → Option ((List (S70)) × Int)
  | 0, _, _ => none
  | k + 1, x0, x4 => if (x0.length : Int) > 0 then (if 0 < (x0.length : Int) then (tlv_Read.j1 k x0 x4 ((rd x0 0) != 255)) else (none)) else (tlv_Read.j1 k x0 x4 false)
def tlv_Read.j1 : Nat → List Int → List (S70) → Bool → Option ((List (S70)) × Int)
  | 0, _, _, _ => none
  | k + 1, x0, x4, x14 => if x14 = true then (if 0 < (x0.length : Int) then (if (rd x0 0) = 0 then (tlv_Read.j2 k x0 x4 1 false) else (tlv_Read.j2 k x0 x4 1 (decide ((x0.length : Int) < 2)))) else (none)) else (some (x4, 0))
def tlv_Read.j2 : Nat → List Int → List (S70) → Int → Bool → Option ((List (S70)) × Int)
  | 0, _, _, _, _ => none
  | k + 1, x0, x4, x5, x15 => if x15 = true then (some (([] : List (S70)), 2)) else (if 0 < (x0.length : Int) then (if (rd x0 0) = 0 then (if 0 ≤ x5 then (if x5 ≤ (x0.length : Int) then ((tlv_Right.f k x4).bind fun t191 => (if t191 = true then (tlv_Read.l0 k (x0.drop (x5 : Int).toNat) x4) else (some (([] : List (S70)), 3)))) else (none)) else (none)) else (if 1 < (x0.length : Int) then (if (x0.length : Int) < (wrap64 (2 + (wrap64 (rd x0 1)))) then (some (([] : List (S70)), 2)) else (if 2 ≤ (wrap64 (2 + (wrap64 (rd x0 1)))) then (if (wrap64 (2 + (wrap64 (rd x0 1)))) ≤ (x0.length : Int) then ((tlv_join.f k x4 (wrap64 (rd x0 0)) ((x0.take ((wrap64 (2 + (wrap64 (rd x0 1)))) : Int).toNat).drop 2)).bind fun t199 => (if 0 ≤ (wrap64 (2 + (wrap64 (rd x0 1)))) then ((tlv_Right.f k t199).bind fun t207 => (if t207 = true then (tlv_Read.l0 k (x0.drop ((wrap64 (2 + (wrap64 (rd x0 1)))) : Int).toNat) t199) else (some (([] : List (S70)), 3)))) else (none))) else (none)) else (none))) else (none))) else (none))
end
def tlv_Read.f (k : Nat) (l0 : List Int) : Option ((List (S70)) × Int) := tlv_Read.l0 k l0 ([] : List (S70))
theorem tlv_Read.mono_l : ∀ k, (∀ y0 y1, LeO (tlv_Read.l0 k y0 y1) (tlv_Read.l0 (k + 1) y0 y1)) ∧ (∀ y0 y1 y2, LeO (tlv_Read.j1 k y0 y1 y2) (tlv_Read.j1 (k + 1) y0 y1 y2)) ∧ (∀ y0 y1 y2 y3, LeO (tlv_Read.j2 k y0 y1 y2 y3) (tlv_Read.j2 (k + 1) y0 y1 y2 y3))
  | 0 => ⟨fun _ _ r h => by simp [tlv_Read.l0] at h, fun _ _ _ r h => by simp [tlv_Read.j1] at h, fun _ _ _ _ r h => by simp [tlv_Read.j2] at h⟩
  | k + 1 => by
    obtain ⟨ih0, ih1, ih2⟩ := tlv_Read.mono_l k
    refine ⟨?_, ?_, ?_⟩
    · intro y0 y1
      unfold tlv_Read.l0
      repeat' first
      | (with_reducible exact ih0 _ _)
      | (with_reducible exact ih1 _ _ _)
      | (with_reducible exact ih2 _ _ _ _)
      | (with_reducible exact tlv_Right.mono _ _)
      | (with_reducible exact tlv_join.mono _ _ _ _)
      | (with_reducible exact LeO.refl _)
      | (with_reducible exact LeO.none _)
      | (with_reducible refine LeO.ite ?_ ?_)
      | (with_reducible refine LeO.bind ?_ (fun _ => ?_))
      | exact ih0 _ _
      | exact ih1 _ _ _
      | exact ih2 _ _ _ _
      | exact tlv_Right.mono _ _
      | exact tlv_join.mono _ _ _ _
      | exact LeO.none _
      | refine LeO.ite ?_ ?_
      | refine LeO.bind ?_ (fun _ => ?_)
    · intro y0 y1 y2
      unfold tlv_Read.j1
      repeat' first
      | (with_reducible exact ih0 _ _)
      | (with_reducible exact ih1 _ _ _)
      | (with_reducible exact ih2 _ _ _ _)
      | (with_reducible exact tlv_Right.mono _ _)
      | (with_reducible exact tlv_join.mono _ _ _ _)
      | (with_reducible exact LeO.refl _)
      | (with_reducible exact LeO.none _)
      | (with_reducible refine LeO.ite ?_ ?_)
      | (with_reducible refine LeO.bind ?_ (fun _ => ?_))
      | exact ih0 _ _
      | exact ih1 _ _ _
      | exact ih2 _ _ _ _
      | exact tlv_Right.mono _ _
      | exact tlv_join.mono _ _ _ _
      | exact LeO.none _
      | refine LeO.ite ?_ ?_
      | refine LeO.bind ?_ (fun _ => ?_)
    · intro y0 y1 y2 y3
      unfold tlv_Read.j2
      repeat' first
      | (with_reducible exact ih0 _ _)
      | (with_reducible exact ih1 _ _ _)
      | (with_reducible exact ih2 _ _ _ _)
      | (with_reducible exact tlv_Right.mono _ _)
      | (with_reducible exact tlv_join.mono _ _ _ _)
      | (with_reducible exact LeO.refl _)
      | (with_reducible exact LeO.none _)
      | (with_reducible refine LeO.ite ?_ ?_)
      | (with_reducible refine LeO.bind ?_ (fun _ => ?_))
      | exact ih0 _ _
      | exact ih1 _ _ _
      | exact ih2 _ _ _ _
      | exact tlv_Right.mono _ _
      | exact tlv_join.mono _ _ _ _
      | exact LeO.none _
      | refine LeO.ite ?_ ?_
      | refine LeO.bind ?_ (fun _ => ?_)
theorem tlv_Read.mono : ∀ a0 k, LeO (tlv_Read.f k a0) (tlv_Read.f (k + 1) a0) := by
  intro a0 k
  obtain ⟨ih0, ih1, ih2⟩ := tlv_Read.mono_l k
  unfold tlv_Read.f
  repeat' first
      | (with_reducible exact ih0 _ _)
      | (with_reducible exact ih1 _ _ _)
      | (with_reducible exact ih2 _ _ _ _)
      | (with_reducible exact tlv_Right.mono _ _)
      | (with_reducible exact tlv_join.mono _ _ _ _)
      | (with_reducible exact LeO.refl _)
      | (with_reducible exact LeO.none _)
      | (with_reducible refine LeO.ite ?_ ?_)
      | (with_reducible refine LeO.bind ?_ (fun _ => ?_))
      | exact ih0 _ _
      | exact ih1 _ _ _
      | exact ih2 _ _ _ _
      | exact tlv_Right.mono _ _
      | exact tlv_join.mono _ _ _ _
      | exact LeO.none _
      | refine LeO.ite ?_ ?_
      | refine LeO.bind ?_ (fun _ => ?_)
def tlv_Read.T10 : Bool × List (List Nat × List Nat) := (true, [([], []), ([], []), ([1], [1]), ([2], [2]), ([3], [3]), ([], []), ([], []), ([5, 6], [5, 6]), ([4, 7], [4, 7]), ([0, 8], [0, 8]), ([9, 9, 0, 1, 2, 3, 4, 5, 6, 7, 8, 9], [0, 9])])
def tlv_Read.B10 : List Nat := [0, 0, 2, 6, 14, 0, 0, 96, 254, 511, 1023]
theorem tlv_Read.tab10 : rtab .any (opsOf Try.f27 10) = tlv_Read.T10 := by kernel_rfl
theorem tlv_Read.bits10 : waitsOk tlv_Read.T10.2 tlv_Read.B10 = true := by kernel_rfl
set_option maxHeartbeats 8000000 in
set_option maxRecDepth 100000 in
theorem tlv_Read.calls (k : Nat) (P0_ : Nat → Prop) (A0 : Option Addr) (c0 : Nat) (l0 : List Int) (r1 : List (S70)) (r2 : Int) (w : World) (hs0 : Kd.V (Kd.int .u8) 5 w w.heap.size (fun k_ => P0_ k_) (.slice A0 l0.length c0) l0) (h : tlv_Read.f k l0 = some (r1, r2)) :
    Calls Try.prog 27 #[.slice A0 l0.length c0] w fun e w' => ∃ v0_ : Value, e = .returned (.tuple #[v0_, .int .i64 r2]) ∧ Kd.N k70 70 w' w.heap.size (fun k_ => (P0_ k_ ∨ w.heap.size ≤ k_)) v0_ r1 ∧ Below w.heap.size w w' := by
  have hu70 := Try.underlying70
  have HO0 := Aside0.mk (show Kd.V (Kd.int .u8) 5 w w.heap.size (fun k_ => (P0_ k_ ∨ w.heap.size ≤ k_)) (.slice A0 l0.length c0) l0 from Kd.V_mono hs0 (fun k_ hk => .inl hk))
  have HB := Aside0.mk (Below.refl w.heap.size w)
  have H : (tlv_Read.l0 k l0 ([] : List (S70))) = some (r1, r2) := h
  clear h
  have H' := Aside0.mk H
  clear H
  go_enter Try.func27, Try.ntmps27
  go_wp2
  go_loopg [0, 4] k (fun kq v0 v4 w' => ∃ (x0_1 : List Int) (x4_1 : List (S70)), Aside0 (tlv_Read.l0 kq x0_1 x4_1 = some (r1, r2)) ∧ Aside0 (kq ≤ k) ∧ Aside0 (Kd.V (Kd.int .u8) 5 w' w.heap.size (fun k_ => (P0_ k_ ∨ w.heap.size ≤ k_) ∧ some k_ ≠ (v4 : Value).ownBlock) v0 x0_1) ∧ Aside0 (Kd.N k70 70 w' w.heap.size (fun k_ => (P0_ k_ ∨ w.heap.size ≤ k_)) v4 x4_1) ∧ Aside0 (Below w.heap.size w w'))
  case atStart => exact ⟨(l0), (([] : List (S70))), H', ⟨Nat.le_refl _⟩, ⟨by (with_reducible repeat (first | apply Kd.V_alloc | apply Kd.V_drewN | apply Kd.V_drew)); exact Kd.V_mono HO0.out (fun _ hk => ⟨hk, (by simp [Value.ownBlock])⟩)⟩, ⟨by first | exact Kd.S_nil _ _ _ _ _ | exact Kd.N_nil _ _ _ _ _ | exact Kd.V_nil _ _ _ _ _ | exact Kd.Q_nil _ _ _ _ _ | exact Kd.R_nil _ _ _ _ _⟩, ⟨by repeat (first | (with_reducible first | exact HB.out | apply below_alloc | apply pw_below_drewN | apply below_drew1) | exact HB.out)⟩⟩
  case round =>
    clear H'
    obtain ⟨x0_1, x4_1, HA, HK1, HO_0, HO_4, HB⟩ := hrel
    cases gk with
    | zero => exact absurd HA.out (by simp [tlv_Read.l0])
    | succ k1 =>
      have H := HA.out
      clear HA
      simp only [tlv_Read.l0] at H
      have HC2 := Aside0.mk H
      clear H
      go_upto_region 2 with (fail)
      go_cut [14] (fun v14 wc => ∃ (kq : Nat) (x14_1 : Bool), v14 = .bool x14_1 ∧ Aside0 (tlv_Read.j1 kq x0_1 x4_1 x14_1 = some (r1, r2)) ∧ Aside0 (kq ≤ k1) ∧ Aside0 (Kd.V (Kd.int .u8) 5 wc w.heap.size (fun k_ => (P0_ k_ ∨ w.heap.size ≤ k_) ∧ some k_ ≠ (u4 : Value).ownBlock) u0 x0_1) ∧ Aside0 (Kd.N k70 70 wc w.heap.size (fun k_ => (P0_ k_ ∨ w.heap.size ≤ k_)) u4 x4_1) ∧ Aside0 (Below w.heap.size w wc))
      case first =>
        have H := HC2.out
        clear HC2
        by_cases c3 : (x0_1.length : Int) > 0
        · rw [if_pos c3] at H
          have c3b0 : decide (0 < (x0_1.length : Int)) = true := decide_eq_true c3
          have c3b1 : decide (0 < x0_1.length) = true := decide_eq_true (by omega)
          clear c3
          (first | rw [c3b0] | (simp only [i64_w, i32_w]; rw [c3b0]) | skip)
          by_cases c4 : 0 < (x0_1.length : Int)
          · rw [if_pos c4] at H
            have c4b0 : decide (0 < (x0_1.length : Int)) = true := decide_eq_true c4
            have c4b1 : decide (0 < x0_1.length) = true := decide_eq_true (by omega)
            clear c4
            have H' := Aside0.mk H
            clear H
            obtain ⟨Ao5, co5, eo5⟩ := Kd.V_slice HO_0.out
            subst eo5
            have p183 : 0 ≤ (0 : Int) := (by omega)
            have q183 : 0 < (x0_1.length : Int) := of_decide_eq_true (by first | (with_reducible assumption) | assumption)
            obtain ⟨ad183, e183, hx183_0⟩ := Kd.at_int (Kd.V_reads' HO_0.out).2.2 0 p183 q183
            cases e183
            have qi183 : (0 < x0_1.length) = True := eq_true (by omega)
            (try rw [show ((0 : Int)).toNat = 0 from rfl] at hx183_0)
            (try rw [Addr.add_zero'] at hx183_0)
            replace p183 := eq_true p183
            replace q183 := eq_true q183
            go_wp2
            go_meet
            case rel => exact ⟨_, (((rd x0_1 0) != 255)), (by first | rfl | (simp; done) | (simp [*]; done)), H', ⟨by have := HK1.out; first | omega | exact Nat.le_refl _⟩, ⟨by (with_reducible repeat (first | apply Kd.V_alloc | apply Kd.V_drewN | apply Kd.V_drew)); exact HO_0.out⟩, ⟨by (with_reducible repeat (first | apply Kd.N_alloc | apply Kd.N_drewN | apply Kd.N_drew)); exact HO_4.out⟩, ⟨by repeat (first | (with_reducible first | exact HB.out | apply below_alloc | apply pw_below_drewN | apply below_drew1) | exact HB.out)⟩⟩
          · rw [if_neg c4] at H
            exact absurd H (by simp)
        · rw [if_neg c3] at H
          have c3b0 : decide (0 < (x0_1.length : Int)) = false := decide_eq_false c3
          have c3b1 : decide (0 < x0_1.length) = false := decide_eq_false (by omega)
          clear c3
          (first | rw [c3b0] | (simp only [i64_w, i32_w]; rw [c3b0]) | skip)
          have H' := Aside0.mk H
          clear H
          obtain ⟨Ao6, co6, eo6⟩ := Kd.V_slice HO_0.out
          subst eo6
          go_wp2
          go_meet
          case rel => exact ⟨_, (false), (by first | rfl | (simp; done) | (simp [*]; done)), H', ⟨by have := HK1.out; first | omega | exact Nat.le_refl _⟩, ⟨by (with_reducible repeat (first | apply Kd.V_alloc | apply Kd.V_drewN | apply Kd.V_drew)); exact HO_0.out⟩, ⟨by (with_reducible repeat (first | apply Kd.N_alloc | apply Kd.N_drewN | apply Kd.N_drew)); exact HO_4.out⟩, ⟨by repeat (first | (with_reducible first | exact HB.out | apply below_alloc | apply pw_below_drewN | apply below_drew1) | exact HB.out)⟩⟩
      case rest =>
        clear HC2
        try clear p1
        try clear q1
        try clear hx1
        try clear qi1
        try clear c2
        try clear p2
        try clear c3
        try clear c3b0
        try clear c3b1
        try clear c4
        try clear c4b0
        try clear c4b1
        try clear hx183_0
        try clear p183
        try clear q183
        obtain ⟨kq, x14_1, rfl, HA, HJ1, HO_0, HO_4, HB⟩ := hcut
        cases kq with
        | zero => exact absurd HA.out (by simp [tlv_Read.j1])
        | succ kj1 =>
          have H := HA.out
          clear HA
          simp only [tlv_Read.j1] at H
          by_cases c7 : x14_1 = true
          · subst c7
            have H1 : (if 0 < (x0_1.length : Int) then (if (rd x0_1 0) = 0 then (tlv_Read.j2 kj1 x0_1 x4_1 1 false) else (tlv_Read.j2 kj1 x0_1 x4_1 1 (decide ((x0_1.length : Int) < 2)))) else (none)) = some (r1, r2) := by rw [if_pos rfl] at H; exact H
            clear H
            have H := H1
            clear H1
            have HC8 := Aside0.mk H
            clear H
            go_upto_region 4 with (fail)
            go_cut [15] (fun v15 wc => ∃ (kq : Nat) (x15_7 : Bool), v15 = .bool x15_7 ∧ Aside0 (tlv_Read.j2 kq x0_1 x4_1 1 x15_7 = some (r1, r2)) ∧ Aside0 (kq ≤ kj1) ∧ Aside0 (Kd.V (Kd.int .u8) 5 wc w.heap.size (fun k_ => (P0_ k_ ∨ w.heap.size ≤ k_) ∧ some k_ ≠ (u4 : Value).ownBlock) u0 x0_1) ∧ Aside0 (Kd.N k70 70 wc w.heap.size (fun k_ => (P0_ k_ ∨ w.heap.size ≤ k_)) u4 x4_1) ∧ Aside0 (Below w.heap.size w wc))
            case first =>
              have H := HC8.out
              clear HC8
              by_cases c9 : 0 < (x0_1.length : Int)
              · rw [if_pos c9] at H
                have c9b0 : decide (0 < (x0_1.length : Int)) = true := decide_eq_true c9
                have c9b1 : decide (0 < x0_1.length) = true := decide_eq_true (by omega)
                clear c9
                (first | rw [c9b0] | (simp only [i64_w, i32_w]; rw [c9b0]) | skip)
                by_cases c10 : (rd x0_1 0) = 0
                · rw [if_pos c10] at H
                  have c10b0 : ((rd x0_1 0) == 0) = true := beq_iff_eq.mpr c10
                  have c10b1 : ((rd x0_1 0) != 0) = false := bne_eq_false_iff_eq.mpr c10
                  clear c10
                  have H' := Aside0.mk H
                  clear H
                  obtain ⟨Ao11, co11, eo11⟩ := Kd.V_slice HO_0.out
                  subst eo11
                  have p184 : 0 ≤ (0 : Int) := (by omega)
                  have q184 : 0 < (x0_1.length : Int) := of_decide_eq_true (by first | (with_reducible assumption) | assumption)
                  obtain ⟨ad184, e184, hx184_0⟩ := Kd.at_int (Kd.V_reads' HO_0.out).2.2 0 p184 q184
                  cases e184
                  have qi184 : (0 < x0_1.length) = True := eq_true (by omega)
                  (try rw [show ((0 : Int)).toNat = 0 from rfl] at hx184_0)
                  (try rw [Addr.add_zero'] at hx184_0)
                  replace p184 := eq_true p184
                  replace q184 := eq_true q184
                  go_wp2
                  go_meet
                  case rel => exact ⟨_, (false), (by first | rfl | (simp; done) | (simp [*]; done)), H', ⟨by have := HK1.out; have := HJ1.out; first | omega | exact Nat.le_refl _⟩, ⟨by (with_reducible repeat (first | apply Kd.V_alloc | apply Kd.V_drewN | apply Kd.V_drew)); exact HO_0.out⟩, ⟨by (with_reducible repeat (first | apply Kd.N_alloc | apply Kd.N_drewN | apply Kd.N_drew)); exact HO_4.out⟩, ⟨by repeat (first | (with_reducible first | exact HB.out | apply below_alloc | apply pw_below_drewN | apply below_drew1) | exact HB.out)⟩⟩
                · rw [if_neg c10] at H
                  have c10b0 : ((rd x0_1 0) == 0) = false := beq_eq_false_iff_ne.mpr c10
                  have c10b1 : ((rd x0_1 0) != 0) = true := bne_iff_ne.mpr c10
                  have H' := Aside0.mk H
                  clear H
                  obtain ⟨Ao12, co12, eo12⟩ := Kd.V_slice HO_0.out
                  subst eo12
                  have p184 : 0 ≤ (0 : Int) := (by omega)
                  have q184 : 0 < (x0_1.length : Int) := of_decide_eq_true (by first | (with_reducible assumption) | assumption)
                  obtain ⟨ad184, e184, hx184_0⟩ := Kd.at_int (Kd.V_reads' HO_0.out).2.2 0 p184 q184
                  cases e184
                  have qi184 : (0 < x0_1.length) = True := eq_true (by omega)
                  (try rw [show ((0 : Int)).toNat = 0 from rfl] at hx184_0)
                  (try rw [Addr.add_zero'] at hx184_0)
                  replace p184 := eq_true p184
                  replace q184 := eq_true q184
                  go_wp2
                  go_meet
                  case rel => exact ⟨_, (decide ((x0_1.length : Int) < 2)), (by first | rfl | (simp; done) | (simp [*]; done)), H', ⟨by have := HK1.out; have := HJ1.out; first | omega | exact Nat.le_refl _⟩, ⟨by (with_reducible repeat (first | apply Kd.V_alloc | apply Kd.V_drewN | apply Kd.V_drew)); exact HO_0.out⟩, ⟨by (with_reducible repeat (first | apply Kd.N_alloc | apply Kd.N_drewN | apply Kd.N_drew)); exact HO_4.out⟩, ⟨by repeat (first | (with_reducible first | exact HB.out | apply below_alloc | apply pw_below_drewN | apply below_drew1) | exact HB.out)⟩⟩
              · rw [if_neg c9] at H
                exact absurd H (by simp)
            case rest =>
              clear HC8
              try clear c1
              try clear p1
              try clear q1
              try clear hx1
              try clear qi1
              try clear c2
              try clear p2
              try clear c3
              try clear c3b0
              try clear c3b1
              try clear c4
              try clear c4b0
              try clear c4b1
              try clear c7
              try clear c9
              try clear c9b0
              try clear c9b1
              try clear c10
              try clear c10b0
              try clear c10b1
              try clear hx183_0
              try clear hx184_0
              try clear p1
              try clear p183
              try clear p184
              try clear p2
              try clear q1
              try clear q183
              try clear q184
              obtain ⟨kq, x15_7, rfl, HA, HJ7, HO_0, HO_4, HB⟩ := hcut
              cases kq with
              | zero => exact absurd HA.out (by simp [tlv_Read.j2])
              | succ kj7 =>
                have H := HA.out
                clear HA
                simp only [tlv_Read.j2] at H
                by_cases c13 : x15_7 = true
                · subst c13
                  have H1 : (some (([] : List (S70)), 2)) = some (r1, r2) := by rw [if_pos rfl] at H; exact H
                  clear H
                  have H := H1
                  clear H1
                  simp only [Option.some.injEq, Prod.mk.injEq] at H
                  obtain ⟨rfl, rfl⟩ := H
                  go_wp2
                  go_ret2
                  exact ⟨_, by first | rfl | (simp [errW_none, errW_some] <;> rfl) | (simp [*, errW_none, errW_some] <;> rfl), by first | exact Kd.S_nil _ _ _ _ _ | exact Kd.N_nil _ _ _ _ _ | exact Kd.V_nil _ _ _ _ _ | exact Kd.Q_nil _ _ _ _ _ | exact Kd.R_nil _ _ _ _ _, by repeat (first | (with_reducible first | exact HB.out | apply below_alloc | apply pw_below_drewN | apply below_drew1) | exact HB.out)⟩
                · replace c13 := Bool.eq_false_iff.mpr c13
                  subst c13
                  have H1 : (if 0 < (x0_1.length : Int) then (if (rd x0_1 0) = 0 then (if 0 ≤ 1 then (if 1 ≤ (x0_1.length : Int) then ((tlv_Right.f kj7 x4_1).bind fun t191 => (if t191 = true then (tlv_Read.l0 kj7 (x0_1.drop (1 : Int).toNat) x4_1) else (some (([] : List (S70)), 3)))) else (none)) else (none)) else (if 1 < (x0_1.length : Int) then (if (x0_1.length : Int) < (wrap64 (2 + (wrap64 (rd x0_1 1)))) then (some (([] : List (S70)), 2)) else (if 2 ≤ (wrap64 (2 + (wrap64 (rd x0_1 1)))) then (if (wrap64 (2 + (wrap64 (rd x0_1 1)))) ≤ (x0_1.length : Int) then ((tlv_join.f kj7 x4_1 (wrap64 (rd x0_1 0)) ((x0_1.take ((wrap64 (2 + (wrap64 (rd x0_1 1)))) : Int).toNat).drop 2)).bind fun t199 => (if 0 ≤ (wrap64 (2 + (wrap64 (rd x0_1 1)))) then ((tlv_Right.f kj7 t199).bind fun t207 => (if t207 = true then (tlv_Read.l0 kj7 (x0_1.drop ((wrap64 (2 + (wrap64 (rd x0_1 1)))) : Int).toNat) t199) else (some (([] : List (S70)), 3)))) else (none))) else (none)) else (none))) else (none))) else (none)) = some (r1, r2) := by rw [if_neg (show ¬ (false = true) by decide)] at H; exact H
                  clear H
                  have H := H1
                  clear H1
                  by_cases c14 : 0 < (x0_1.length : Int)
                  · rw [if_pos c14] at H
                    have c14b0 : decide (0 < (x0_1.length : Int)) = true := decide_eq_true c14
                    have c14b1 : decide (0 < x0_1.length) = true := decide_eq_true (by omega)
                    clear c14
                    by_cases c15 : (rd x0_1 0) = 0
                    · rw [if_pos c15] at H
                      have c15b0 : ((rd x0_1 0) == 0) = true := beq_iff_eq.mpr c15
                      have c15b1 : ((rd x0_1 0) != 0) = false := bne_eq_false_iff_eq.mpr c15
                      clear c15
                      by_cases c16 : 0 ≤ 1
                      · rw [if_pos c16] at H
                        have c16b0 := eq_true c16
                        have c16b1 : decide (0 ≤ 1) = true := decide_eq_true c16
                        clear c16
                        by_cases c17 : 1 ≤ (x0_1.length : Int)
                        · rw [if_pos c17] at H
                          have c17b0 := eq_true c17
                          have c17b1 : decide (1 ≤ (x0_1.length : Int)) = true := decide_eq_true c17
                          clear c17
                          obtain ⟨y186, hy186⟩ : ∃ y_ : List Int, y_ = (x0_1.drop (1 : Int).toNat) := ⟨_, rfl⟩
                          replace H : ((tlv_Right.f kj7 x4_1).bind fun t191 => (if t191 = true then (tlv_Read.l0 kj7 y186 x4_1) else (some (([] : List (S70)), 3)))) = some (r1, r2) := by first | (rw [hy186]; with_reducible exact H) | (have H2_ := (Option.bind_some _ _).symm.trans H; rw [hy186]; with_reducible exact H2_) | (have H2_ := (Option.bind_some _ _).symm.trans H; with_reducible exact H2_) | with_reducible exact H | (rw [hy186]; exact H) | exact H
                          have Ny186 := Aside0.mk hy186
                          clear hy186
                          replace H := Option.bind_eq_some_iff.mp H
                          obtain ⟨t191, A180, H⟩ := H
                          replace H : (if t191 = true then (tlv_Read.l0 kj7 y186 x4_1) else (some (([] : List (S70)), 3))) = some (r1, r2) := H
                          have A18 := Aside0.mk A180
                          clear A180
                          by_cases c19 : t191 = true
                          · subst c19
                            have H1 : (tlv_Read.l0 kj7 y186 x4_1) = some (r1, r2) := by rw [if_pos rfl] at H; exact H
                            clear H
                            have H := H1
                            clear H1
                            have H' := Aside0.mk H
                            clear H
                            obtain ⟨Ao20, co20, eo20⟩ := Kd.V_slice HO_0.out
                            subst eo20
                            have p185 : 0 ≤ (0 : Int) := (by omega)
                            have q185 : 0 < (x0_1.length : Int) := of_decide_eq_true (by first | (with_reducible assumption) | assumption)
                            obtain ⟨ad185, e185, hx185_0⟩ := Kd.at_int (Kd.V_reads' HO_0.out).2.2 0 p185 q185
                            cases e185
                            have qi185 : (0 < x0_1.length) = True := eq_true (by omega)
                            (try rw [show ((0 : Int)).toNat = 0 from rfl] at hx185_0)
                            (try rw [Addr.add_zero'] at hx185_0)
                            replace p185 := eq_true p185
                            replace q185 := eq_true q185
                            have q21 : (1 : Int) ≤ ((x0_1.length : Int) : Int) := of_decide_eq_true (by first | (with_reducible assumption) | assumption)
                            obtain ⟨i021, hi021, _, hsz21, _⟩ := info_parts info5
                            have hroom21 : x0_1.length ≤ co20 := (Kd.V_reads' HO_0.out).2.1
                            have hC21 : Kd.F (Kd.int .u8) _ _ (some ad185) x0_1.length x0_1 := (Kd.V_at (base := w.heap.size) HO_0.out).2.2
                            have hcut21 := cut_from (P := Try.prog) 25 5 .i64 Try.underlying25 hi021 1 hsz21 (some ad185) x0_1.length co20 1 (by omega) q21
                            have hr21 := Kd.F_cut (m := (1 : Int).toNat) (c := co20) hC21 (by omega) hroom21
                            obtain ⟨A21, hA21⟩ : ∃ A1, A1 = (if co20 = (1 : Int).toNat then (some ad185) else ((some ad185) : Option Addr).map (·.add ((1 : Int).toNat * 1))) := ⟨_, rfl⟩
                            obtain ⟨c21, hc21⟩ : ∃ c1, c1 = co20 - (1 : Int).toNat := ⟨_, rfl⟩
                            have hy21 : y186.length = x0_1.length - (1 : Int).toNat := (by rw [Ny186.out, List.length_drop] <;> omega)
                            rw [show (x0_1).drop (1 : Int).toNat = y186 from Ny186.out.symm] at hr21
                            replace hr21 : Kd.F (Kd.int .u8) _ _ A21 y186.length y186 := (by rw [hA21]; exact hr21)
                            rw [← hy21, ← hA21, ← hc21] at hcut21
                            have HO190 := Aside0.mk (show Kd.V (Kd.int .u8) 5 _ w.heap.size _ (.slice A21 y186.length c21) y186 from Kd.V_mk (by rw [hy21, hc21]; exact Nat.sub_le_sub_right hroom21 _) hr21)
                            have HC190 := Aside0.mk (show y186.length ≤ c21 from by rw [hy21, hc21]; exact Nat.sub_le_sub_right hroom21 _)
                            clear hr21 hC21 hroom21 hi021 hsz21 hc21
                            have KY21 := Aside0.mk hy21
                            have KA21 := Aside0.mk hA21
                            clear hy21 hA21
                            replace q21 := eq_true q21
                            obtain ⟨Ao22, co22, eo22⟩ := Kd.N_slice HO_4.out
                            subst eo22
                            go_wp2_with (first | ((with_reducible refine gate_callee (f := 23) rfl ?_); refine goesL_ (some 53) rfl rfl Try.func23 (by kernel_rfl) rfl #[.slice Ao22 x4_1.length co22] rfl (by (try simp only [List.map_toArray, List.map_cons, List.map_nil]); first | done | rfl | (simp only [List.length_drop, List.length_take]; rfl)) ?_; (with_reducible refine (tlv_Right.calls kj7 _ _ x4_1 true _ ?side1 ?side2 A18.out).mono ?_); (case side1 => repeat (first | exact (Kd.N_reads' HO_4.out).2.2 | (with_reducible refine Kd.C_alloc ?_ _) | (with_reducible refine Kd.C_drewN ?_ _) | (with_reducible refine Kd.C_drew ?_))); (case side2 => exact (Kd.N_reads' HO_4.out).2.1); rintro e w23 ⟨rfl, hb⟩; refine ⟨_, rfl, ?_⟩; have n0_ := Aside0.mk (Kd.V_below (by (with_reducible repeat (first | apply Kd.V_alloc | apply Kd.V_drewN | apply Kd.V_drew)); exact HO_0.out) hb); have n1_ := Aside0.mk (Kd.N_below (by (with_reducible repeat (first | apply Kd.N_alloc | apply Kd.N_drewN | apply Kd.N_drew)); exact HO_4.out) hb); have n2_ := Aside0.mk (Kd.V_below (by (with_reducible repeat (first | apply Kd.V_alloc | apply Kd.V_drewN | apply Kd.V_drew)); exact HO190.out) hb); have n3_ := Aside0.mk (below_step (by repeat (first | (with_reducible first | exact HB.out | apply below_alloc | apply pw_below_drewN | apply below_drew1) | exact HB.out)) hb); clear HO_0; clear HO_4; clear HO190; clear HB; have HO_0 := n0_; have HO_4 := n1_; have HO190 := n2_; have HB := n3_; clear n0_ n1_ n2_ n3_; (try clear hb); (try clear hb2); (try clear hk); (try clear hi)))
                            go_roundg kj7
                            case measure => have := HK1.out; have := HJ1.out; have := HJ7.out; omega
                            case rel => exact ⟨(y186), (x4_1), H', ⟨by have := HK1.out; have := HJ1.out; have := HJ7.out; omega⟩, ⟨by (with_reducible repeat (first | apply Kd.V_alloc | apply Kd.V_drewN | apply Kd.V_drew)); exact HO190.out⟩, ⟨by (with_reducible repeat (first | apply Kd.N_alloc | apply Kd.N_drewN | apply Kd.N_drew)); exact HO_4.out⟩, ⟨by repeat (first | (with_reducible first | exact HB.out | apply below_alloc | apply pw_below_drewN | apply below_drew1) | exact HB.out)⟩⟩
                          · replace c19 := Bool.eq_false_iff.mpr c19
                            subst c19
                            have H1 : (some (([] : List (S70)), 3)) = some (r1, r2) := by rw [if_neg (show ¬ (false = true) by decide)] at H; exact H
                            clear H
                            have H := H1
                            clear H1
                            simp only [Option.some.injEq, Prod.mk.injEq] at H
                            obtain ⟨rfl, rfl⟩ := H
                            obtain ⟨Ao24, co24, eo24⟩ := Kd.V_slice HO_0.out
                            subst eo24
                            have p185 : 0 ≤ (0 : Int) := (by omega)
                            have q185 : 0 < (x0_1.length : Int) := of_decide_eq_true (by first | (with_reducible assumption) | assumption)
                            obtain ⟨ad185, e185, hx185_0⟩ := Kd.at_int (Kd.V_reads' HO_0.out).2.2 0 p185 q185
                            cases e185
                            have qi185 : (0 < x0_1.length) = True := eq_true (by omega)
                            (try rw [show ((0 : Int)).toNat = 0 from rfl] at hx185_0)
                            (try rw [Addr.add_zero'] at hx185_0)
                            replace p185 := eq_true p185
                            replace q185 := eq_true q185
                            have q25 : (1 : Int) ≤ ((x0_1.length : Int) : Int) := of_decide_eq_true (by first | (with_reducible assumption) | assumption)
                            obtain ⟨i025, hi025, _, hsz25, _⟩ := info_parts info5
                            have hroom25 : x0_1.length ≤ co24 := (Kd.V_reads' HO_0.out).2.1
                            have hC25 : Kd.F (Kd.int .u8) _ _ (some ad185) x0_1.length x0_1 := (Kd.V_at (base := w.heap.size) HO_0.out).2.2
                            have hcut25 := cut_from (P := Try.prog) 25 5 .i64 Try.underlying25 hi025 1 hsz25 (some ad185) x0_1.length co24 1 (by omega) q25
                            have hr25 := Kd.F_cut (m := (1 : Int).toNat) (c := co24) hC25 (by omega) hroom25
                            obtain ⟨A25, hA25⟩ : ∃ A1, A1 = (if co24 = (1 : Int).toNat then (some ad185) else ((some ad185) : Option Addr).map (·.add ((1 : Int).toNat * 1))) := ⟨_, rfl⟩
                            obtain ⟨c25, hc25⟩ : ∃ c1, c1 = co24 - (1 : Int).toNat := ⟨_, rfl⟩
                            have hy25 : y186.length = x0_1.length - (1 : Int).toNat := (by rw [Ny186.out, List.length_drop] <;> omega)
                            rw [show (x0_1).drop (1 : Int).toNat = y186 from Ny186.out.symm] at hr25
                            replace hr25 : Kd.F (Kd.int .u8) _ _ A25 y186.length y186 := (by rw [hA25]; exact hr25)
                            rw [← hy25, ← hA25, ← hc25] at hcut25
                            have HO190 := Aside0.mk (show Kd.V (Kd.int .u8) 5 _ w.heap.size _ (.slice A25 y186.length c25) y186 from Kd.V_mk (by rw [hy25, hc25]; exact Nat.sub_le_sub_right hroom25 _) hr25)
                            have HC190 := Aside0.mk (show y186.length ≤ c25 from by rw [hy25, hc25]; exact Nat.sub_le_sub_right hroom25 _)
                            clear hr25 hC25 hroom25 hi025 hsz25 hc25
                            have KY25 := Aside0.mk hy25
                            have KA25 := Aside0.mk hA25
                            clear hy25 hA25
                            replace q25 := eq_true q25
                            obtain ⟨Ao26, co26, eo26⟩ := Kd.N_slice HO_4.out
                            subst eo26
                            go_wp2_with (first | ((with_reducible refine gate_callee (f := 23) rfl ?_); refine goesL_ (some 53) rfl rfl Try.func23 (by kernel_rfl) rfl #[.slice Ao26 x4_1.length co26] rfl (by (try simp only [List.map_toArray, List.map_cons, List.map_nil]); first | done | rfl | (simp only [List.length_drop, List.length_take]; rfl)) ?_; (with_reducible refine (tlv_Right.calls kj7 _ _ x4_1 false _ ?side1 ?side2 A18.out).mono ?_); (case side1 => repeat (first | exact (Kd.N_reads' HO_4.out).2.2 | (with_reducible refine Kd.C_alloc ?_ _) | (with_reducible refine Kd.C_drewN ?_ _) | (with_reducible refine Kd.C_drew ?_))); (case side2 => exact (Kd.N_reads' HO_4.out).2.1); rintro e w27 ⟨rfl, hb⟩; refine ⟨_, rfl, ?_⟩; have n0_ := Aside0.mk (Kd.V_below (by (with_reducible repeat (first | apply Kd.V_alloc | apply Kd.V_drewN | apply Kd.V_drew)); exact HO_0.out) hb); have n1_ := Aside0.mk (Kd.N_below (by (with_reducible repeat (first | apply Kd.N_alloc | apply Kd.N_drewN | apply Kd.N_drew)); exact HO_4.out) hb); have n2_ := Aside0.mk (Kd.V_below (by (with_reducible repeat (first | apply Kd.V_alloc | apply Kd.V_drewN | apply Kd.V_drew)); exact HO190.out) hb); have n3_ := Aside0.mk (below_step (by repeat (first | (with_reducible first | exact HB.out | apply below_alloc | apply pw_below_drewN | apply below_drew1) | exact HB.out)) hb); clear HO_0; clear HO_4; clear HO190; clear HB; have HO_0 := n0_; have HO_4 := n1_; have HO190 := n2_; have HB := n3_; clear n0_ n1_ n2_ n3_; (try clear hb); (try clear hb2); (try clear hk); (try clear hi)))
                            go_ret2
                            exact ⟨_, by first | rfl | (simp [errW_none, errW_some] <;> rfl) | (simp [*, errW_none, errW_some] <;> rfl), by first | exact Kd.S_nil _ _ _ _ _ | exact Kd.N_nil _ _ _ _ _ | exact Kd.V_nil _ _ _ _ _ | exact Kd.Q_nil _ _ _ _ _ | exact Kd.R_nil _ _ _ _ _, by repeat (first | (with_reducible first | exact HB.out | apply below_alloc | apply pw_below_drewN | apply below_drew1) | exact HB.out)⟩
                        · rw [if_neg c17] at H
                          exact absurd H (by simp)
                      · rw [if_neg c16] at H
                        exact absurd H (by simp)
                    · rw [if_neg c15] at H
                      have c15b0 : ((rd x0_1 0) == 0) = false := beq_eq_false_iff_ne.mpr c15
                      have c15b1 : ((rd x0_1 0) != 0) = true := bne_iff_ne.mpr c15
                      by_cases c28 : 1 < (x0_1.length : Int)
                      · rw [if_pos c28] at H
                        have c28b0 : decide (1 < (x0_1.length : Int)) = true := decide_eq_true c28
                        have c28b1 : decide (1 < x0_1.length) = true := decide_eq_true (by omega)
                        clear c28
                        by_cases c29 : (x0_1.length : Int) < (wrap64 (2 + (wrap64 (rd x0_1 1))))
                        · rw [if_pos c29] at H
                          have c29b0 : decide ((x0_1.length : Int) < (wrap64 (2 + (wrap64 (rd x0_1 1))))) = true := decide_eq_true c29
                          clear c29
                          simp only [Option.some.injEq, Prod.mk.injEq] at H
                          obtain ⟨rfl, rfl⟩ := H
                          obtain ⟨Ao30, co30, eo30⟩ := Kd.V_slice HO_0.out
                          subst eo30
                          have p185 : 0 ≤ (0 : Int) := (by omega)
                          have q185 : 0 < (x0_1.length : Int) := of_decide_eq_true (by first | (with_reducible assumption) | assumption)
                          obtain ⟨ad185, e185, hx185_0⟩ := Kd.at_int (Kd.V_reads' HO_0.out).2.2 0 p185 q185
                          cases e185
                          have qi185 : (0 < x0_1.length) = True := eq_true (by omega)
                          (try rw [show ((0 : Int)).toNat = 0 from rfl] at hx185_0)
                          (try rw [Addr.add_zero'] at hx185_0)
                          replace p185 := eq_true p185
                          replace q185 := eq_true q185
                          have p192 : 0 ≤ (1 : Int) := (by omega)
                          have q192 : 1 < (x0_1.length : Int) := of_decide_eq_true (by first | (with_reducible assumption) | assumption)
                          obtain ⟨ad192, e192, hx192_0⟩ := Kd.at_int (Kd.V_reads' HO_0.out).2.2 1 p192 q192
                          obtain rfl : ad185 = ad192 := (by injection e192)
                          (try simp only [show (1 : Int).toNat = 1 from rfl, Nat.reduceMul, Nat.reduceEqDiff, Go.Addr.add, ↓reduceIte] at hx192_0)
                          have qi192 : (1 < x0_1.length) = True := eq_true (by omega)
                          (try rw [show ((1 : Int)).toNat = 1 from rfl] at hx192_0)
                          replace p192 := eq_true p192
                          replace q192 := eq_true q192
                          go_wp2
                          go_ret2
                          exact ⟨_, by first | rfl | (simp [errW_none, errW_some] <;> rfl) | (simp [*, errW_none, errW_some] <;> rfl), by first | exact Kd.S_nil _ _ _ _ _ | exact Kd.N_nil _ _ _ _ _ | exact Kd.V_nil _ _ _ _ _ | exact Kd.Q_nil _ _ _ _ _ | exact Kd.R_nil _ _ _ _ _, by repeat (first | (with_reducible first | exact HB.out | apply below_alloc | apply pw_below_drewN | apply below_drew1) | exact HB.out)⟩
                        · rw [if_neg c29] at H
                          have c29b0 : decide ((x0_1.length : Int) < (wrap64 (2 + (wrap64 (rd x0_1 1))))) = false := decide_eq_false c29
                          clear c29
                          by_cases c31 : 2 ≤ (wrap64 (2 + (wrap64 (rd x0_1 1))))
                          · rw [if_pos c31] at H
                            have c31b0 := eq_true c31
                            have c31b1 : decide (2 ≤ (wrap64 (2 + (wrap64 (rd x0_1 1))))) = true := decide_eq_true c31
                            by_cases c32 : (wrap64 (2 + (wrap64 (rd x0_1 1)))) ≤ (x0_1.length : Int)
                            · rw [if_pos c32] at H
                              have c32b0 := eq_true c32
                              have c32b1 : decide ((wrap64 (2 + (wrap64 (rd x0_1 1)))) ≤ (x0_1.length : Int)) = true := decide_eq_true c32
                              obtain ⟨y194, hy194⟩ : ∃ y_ : List Int, y_ = ((x0_1.take ((wrap64 (2 + (wrap64 (rd x0_1 1)))) : Int).toNat).drop 2) := ⟨_, rfl⟩
                              replace H : ((tlv_join.f kj7 x4_1 (wrap64 (rd x0_1 0)) y194).bind fun t199 => (if 0 ≤ (wrap64 (2 + (wrap64 (rd x0_1 1)))) then ((tlv_Right.f kj7 t199).bind fun t207 => (if t207 = true then (tlv_Read.l0 kj7 (x0_1.drop ((wrap64 (2 + (wrap64 (rd x0_1 1)))) : Int).toNat) t199) else (some (([] : List (S70)), 3)))) else (none))) = some (r1, r2) := by first | (rw [hy194]; with_reducible exact H) | (have H2_ := (Option.bind_some _ _).symm.trans H; rw [hy194]; with_reducible exact H2_) | (have H2_ := (Option.bind_some _ _).symm.trans H; with_reducible exact H2_) | with_reducible exact H | (rw [hy194]; exact H) | exact H
                              have Ny194 := Aside0.mk hy194
                              clear hy194
                              replace H := Option.bind_eq_some_iff.mp H
                              obtain ⟨t199, A330, H⟩ := H
                              replace H : (if 0 ≤ (wrap64 (2 + (wrap64 (rd x0_1 1)))) then ((tlv_Right.f kj7 t199).bind fun t207 => (if t207 = true then (tlv_Read.l0 kj7 (x0_1.drop ((wrap64 (2 + (wrap64 (rd x0_1 1)))) : Int).toNat) t199) else (some (([] : List (S70)), 3)))) else (none)) = some (r1, r2) := H
                              have A33 := Aside0.mk A330
                              clear A330
                              obtain ⟨ji34, hji34⟩ : ∃ j_ : Int, (wrap64 (2 + (wrap64 (rd x0_1 1)))) = j_ := ⟨_, rfl⟩
                              replace H : (if 0 ≤ (ji34) then ((tlv_Right.f kj7 t199).bind fun t207 => (if t207 = true then (tlv_Read.l0 kj7 (x0_1.drop ((ji34) : Int).toNat) t199) else (some (([] : List (S70)), 3)))) else (none)) = some (r1, r2) := by first | (rw [hji34] at H; exact H) | (simp only [hji34] at H ⊢; exact H)
                              (try rw [hji34] at c29b0)
                              (try rw [hji34] at c31b0)
                              (try rw [hji34] at c31b1)
                              (try rw [hji34] at c31)
                              (try rw [hji34] at c32b0)
                              (try rw [hji34] at c32b1)
                              (try rw [hji34] at c32)
                              (try rw [hji34] at Ny194)
                              (try rw [hji34] at Ny194)
                              (try rw [hji34] at A33)
                              have hji34w : (IntKind.i64.wrap (2 + (wrap64 (rd x0_1 1)))) = ji34 := (i64_w _).trans hji34
                              by_cases c35 : 0 ≤ (ji34)
                              · rw [if_pos c35] at H
                                have c35b0 := eq_true c35
                                have c35b1 : decide (0 ≤ (ji34)) = true := decide_eq_true c35
                                clear c35
                                have c36b0 := eq_true (of_decide_eq_true (by first | (with_reducible assumption) | assumption) : (ji34) ≤ (x0_1.length : Int))
                                obtain ⟨y202, hy202⟩ : ∃ y_ : List Int, y_ = (x0_1.drop ((ji34) : Int).toNat) := ⟨_, rfl⟩
                                replace H : ((tlv_Right.f kj7 t199).bind fun t207 => (if t207 = true then (tlv_Read.l0 kj7 y202 t199) else (some (([] : List (S70)), 3)))) = some (r1, r2) := by first | (rw [hy202]; with_reducible exact H) | (have H2_ := (Option.bind_some _ _).symm.trans H; rw [hy202]; with_reducible exact H2_) | (have H2_ := (Option.bind_some _ _).symm.trans H; with_reducible exact H2_) | with_reducible exact H | (rw [hy202]; exact H) | exact H
                                have Ny202 := Aside0.mk hy202
                                clear hy202
                                replace H := Option.bind_eq_some_iff.mp H
                                obtain ⟨t207, A370, H⟩ := H
                                replace H : (if t207 = true then (tlv_Read.l0 kj7 y202 t199) else (some (([] : List (S70)), 3))) = some (r1, r2) := H
                                have A37 := Aside0.mk A370
                                clear A370
                                by_cases c38 : t207 = true
                                · subst c38
                                  have H1 : (tlv_Read.l0 kj7 y202 t199) = some (r1, r2) := by rw [if_pos rfl] at H; exact H
                                  clear H
                                  have H := H1
                                  clear H1
                                  have H' := Aside0.mk H
                                  clear H
                                  obtain ⟨Ao39, co39, eo39⟩ := Kd.V_slice HO_0.out
                                  subst eo39
                                  have p185 : 0 ≤ (0 : Int) := (by omega)
                                  have q185 : 0 < (x0_1.length : Int) := of_decide_eq_true (by first | (with_reducible assumption) | assumption)
                                  obtain ⟨ad185, e185, hx185_0⟩ := Kd.at_int (Kd.V_reads' HO_0.out).2.2 0 p185 q185
                                  cases e185
                                  have qi185 : (0 < x0_1.length) = True := eq_true (by omega)
                                  (try rw [show ((0 : Int)).toNat = 0 from rfl] at hx185_0)
                                  (try rw [Addr.add_zero'] at hx185_0)
                                  replace p185 := eq_true p185
                                  replace q185 := eq_true q185
                                  have p192 : 0 ≤ (1 : Int) := (by omega)
                                  have q192 : 1 < (x0_1.length : Int) := of_decide_eq_true (by first | (with_reducible assumption) | assumption)
                                  obtain ⟨ad192, e192, hx192_0⟩ := Kd.at_int (Kd.V_reads' HO_0.out).2.2 1 p192 q192
                                  obtain rfl : ad185 = ad192 := (by injection e192)
                                  (try simp only [show (1 : Int).toNat = 1 from rfl, Nat.reduceMul, Nat.reduceEqDiff, Go.Addr.add, ↓reduceIte] at hx192_0)
                                  have qi192 : (1 < x0_1.length) = True := eq_true (by omega)
                                  (try rw [show ((1 : Int)).toNat = 1 from rfl] at hx192_0)
                                  replace p192 := eq_true p192
                                  replace q192 := eq_true q192
                                  try go_wp2
                                  have n0_ := Aside0.mk (Kd.V_drew HO_0.out)
                                  have n1_ := Aside0.mk (Kd.N_drew HO_4.out)
                                  have n2_ := Aside0.mk (below_drew1 HB.out)
                                  clear HO_0
                                  clear HO_4
                                  clear HB
                                  have HO_0 := n0_
                                  have HO_4 := n1_
                                  have HB := n2_
                                  clear n0_ n1_ n2_
                                  have p193 : 0 ≤ (0 : Int) := (by omega)
                                  have q193 : 0 < (x0_1.length : Int) := of_decide_eq_true (by first | (with_reducible assumption) | assumption)
                                  obtain ⟨ad193, e193, hx193_0⟩ := Kd.at_int (Kd.V_reads' HO_0.out).2.2 0 p193 q193
                                  obtain rfl : ad185 = ad193 := (by injection e193)
                                  have qi193 : (0 < x0_1.length) = True := eq_true (by omega)
                                  (try rw [show ((0 : Int)).toNat = 0 from rfl] at hx193_0)
                                  (try rw [Addr.add_zero'] at hx193_0)
                                  replace p193 := eq_true p193
                                  replace q193 := eq_true q193
                                  have q41 : ((ji34) : Int) ≤ ((x0_1.length : Int) : Int) := of_decide_eq_true (by first | (with_reducible assumption) | assumption)
                                  obtain ⟨i041, hi041, _, hsz41, _⟩ := info_parts info5
                                  have hroom41 : x0_1.length ≤ co39 := (Kd.V_reads' HO_0.out).2.1
                                  have hC41 : Kd.F (Kd.int .u8) _ _ (some ad185) x0_1.length x0_1 := (Kd.V_at (base := w.heap.size) HO_0.out).2.2
                                  have ql41 : (2 : Int) ≤ ((ji34) : Int) := of_decide_eq_true (by first | (with_reducible assumption) | assumption)
                                  have hcut41 := cut_mid (P := Try.prog) 25 5 .i64 .i64 Try.underlying25 hi041 1 hsz41 (some ad185) x0_1.length co39 2 (ji34) (by omega) ql41 q41 hroom41
                                  have hr41 := Kd.F_mid (lo := (2 : Int).toNat) (hi := ((ji34) : Int).toNat) (c := co39) hC41 (by omega) (by omega) hroom41
                                  obtain ⟨A41, hA41⟩ : ∃ A1, A1 = (if co39 = (2 : Int).toNat then (some ad185) else ((some ad185) : Option Addr).map (·.add ((2 : Int).toNat * 1))) := ⟨_, rfl⟩
                                  obtain ⟨c41, hc41⟩ : ∃ c1, c1 = co39 - (2 : Int).toNat := ⟨_, rfl⟩
                                  have hy41 : y194.length = ((ji34) : Int).toNat - (2 : Int).toNat := (by rw [Ny194.out, List.length_drop, List.length_take] <;> omega)
                                  rw [show ((x0_1).take ((ji34) : Int).toNat).drop (2 : Int).toNat = y194 from Ny194.out.symm] at hr41
                                  replace hr41 : Kd.F (Kd.int .u8) _ _ A41 y194.length y194 := (by rw [hA41]; exact hr41)
                                  rw [← hy41, ← hA41, ← hc41] at hcut41
                                  have HO198 := Aside0.mk (show Kd.V (Kd.int .u8) 5 _ w.heap.size _ (.slice A41 y194.length c41) y194 from Kd.V_mk (by rw [hy41, hc41]; exact Nat.sub_le_sub_right (Nat.le_trans (by omega) hroom41) _) hr41)
                                  have HC198 := Aside0.mk (show y194.length ≤ c41 from by rw [hy41, hc41]; exact Nat.sub_le_sub_right (Nat.le_trans (by omega) hroom41) _)
                                  clear hr41 hC41 hroom41 hi041 hsz41 hc41
                                  have KY41 := Aside0.mk hy41
                                  have KA41 := Aside0.mk hA41
                                  clear hy41 hA41
                                  replace q41 := eq_true q41
                                  obtain ⟨Ao42, co42, eo42⟩ := Kd.N_slice HO_4.out
                                  (first | subst eo42 | (injection eo42 with f1_ f2_ f3_; have f4_ := f1_.symm; have f5_ := f3_.symm; clear f1_ f2_ f3_; subst f4_; subst f5_))
                                  refine start_ (n := 11) (S := fun w' => w'.cell? ad185 = some (.int .u8 (rd x0_1 0))) (ds := [9]) #[false, false, false, false, false, false, false, false, false, false, false] (by kernel_rfl) rfl rfl (hx193_0) (fun hHeld => ?_); refine with_tabW tlv_Read.tab10 tlv_Read.bits10 (fun HT_ HW_ => ?_)
                                  generalize wc.drew = w40 at HO_0 HO_4 HB HO198 hx193_0 hHeld ⊢
                                  refine pure_ (i := 0) (N := some 39) (v := ?_) (a' := ?_) #[true, false, false, false, false, false, false, false, false, false, false] rfl rfl (any_of HT_.out (by kernel_rfl)) (fun _ _ _ h => h) (Or.inl ⟨by rfl, ?_⟩) ?_ ?_
                                  rotate_left
                                  · intro w'
                                    go_simp
                                    with_reducible rfl
                                  rotate_left
                                  · simp only [Act.put, List.setIfInBounds_toArray, List.set_cons_zero, List.set_cons_succ, i64_w, i32_w]
                                    rfl
                                  refine pure_ (i := 1) (N := some 40) (v := ?_) (a' := ?_) #[true, true, false, false, false, false, false, false, false, false, false] rfl rfl (any_of HT_.out (by kernel_rfl)) (fun _ _ _ h => h) (Or.inl ⟨by rfl, ?_⟩) ?_ ?_
                                  rotate_left
                                  · intro w'
                                    go_simp
                                    with_reducible rfl
                                  rotate_left
                                  · simp only [Act.put, List.setIfInBounds_toArray, List.set_cons_zero, List.set_cons_succ, i64_w, i32_w]
                                    rfl
                                  refine pure_ (i := 2) (N := some 41) (v := ?_) (a' := ?_) #[true, true, true, false, false, false, false, false, false, false, false] rfl rfl (any_of HT_.out (by kernel_rfl)) (fun _ _ _ h => h) (Or.inl ⟨by rfl, ?_⟩) ?_ ?_
                                  rotate_left
                                  · intro w'
                                    go_simp
                                    with_reducible rfl
                                  rotate_left
                                  · simp only [Act.put, List.setIfInBounds_toArray, List.set_cons_zero, List.set_cons_succ, i64_w, i32_w]
                                    rfl
                                  refine pure_ (i := 5) (N := some 44) (v := ?_) (a' := ?_) #[true, true, true, false, false, true, false, false, false, false, false] rfl rfl (any_of HT_.out (by kernel_rfl)) (fun _ _ _ h => h) (Or.inl ⟨by rfl, ?_⟩) ?_ ?_
                                  rotate_left
                                  · intro w'
                                    go_simp
                                    with_reducible rfl
                                  rotate_left
                                  · simp only [Act.put, List.setIfInBounds_toArray, List.set_cons_zero, List.set_cons_succ, i64_w, i32_w]
                                    rfl
                                  refine pure_ (i := 6) (N := some 45) (v := ?_) (a' := ?_) #[true, true, true, false, false, true, true, false, false, false, false] rfl rfl (any_of HT_.out (by kernel_rfl)) (fun _ _ _ h => h) (Or.inl ⟨by rfl, ?_⟩) ?_ ?_
                                  rotate_left
                                  · intro w'
                                    go_simp
                                    with_reducible rfl
                                  rotate_left
                                  · simp only [Act.put, List.setIfInBounds_toArray, List.set_cons_zero, List.set_cons_succ, i64_w, i32_w]
                                    rfl
                                  refine pure_ (i := 7) (N := some 46) (v := ?_) (a' := ?_) #[true, true, true, false, false, true, true, true, false, false, false] rfl rfl (any_of HT_.out (by kernel_rfl)) (fun _ _ _ h => h) (Or.inl ⟨by rfl, ?_⟩) ?_ ?_
                                  rotate_left
                                  · intro w'
                                    go_simp
                                    with_reducible rfl
                                  rotate_left
                                  · simp only [Act.put, List.setIfInBounds_toArray, List.set_cons_zero, List.set_cons_succ, i64_w, i32_w]
                                    rfl
                                  refine take_ (i := 3) (N := some 42) (v := ?_) (a' := ?_) #[true, true, true, true, false, true, true, true, false, false, false] rfl rfl (take_ofW HT_.out HW_.out (by kernel_rfl)) (fun _ _ _ h => h) (Or.inl ⟨by rfl, ?_⟩) hHeld ?_ ?_
                                  rotate_left
                                  · intro w' s0
                                    go_simp
                                    with_reducible rfl
                                  rotate_left
                                  · simp only [Act.put, List.setIfInBounds_toArray, List.set_cons_zero, List.set_cons_succ, i64_w, i32_w]
                                    rfl
                                  refine pure_ (i := 4) (N := some 43) (v := ?_) (a' := ?_) #[true, true, true, true, true, true, true, true, false, false, false] rfl rfl (any_of HT_.out (by kernel_rfl)) (fun _ _ _ h => h) (Or.inl ⟨by rfl, ?_⟩) ?_ ?_
                                  rotate_left
                                  · intro w'
                                    go_simp
                                    with_reducible rfl
                                  rotate_left
                                  · simp only [Act.put, List.setIfInBounds_toArray, List.set_cons_zero, List.set_cons_succ, i64_w, i32_w]
                                    rfl
                                  refine pure_ (i := 8) (N := some 47) (v := ?_) (a' := ?_) #[true, true, true, true, true, true, true, true, true, false, false] rfl rfl (any_of HT_.out (by kernel_rfl)) (fun _ _ _ h => h) (Or.inl ⟨by rfl, ?_⟩) ?_ ?_
                                  rotate_left
                                  · intro w'
                                    go_simp
                                    with_reducible rfl
                                  rotate_left
                                  · simp only [Act.put, List.setIfInBounds_toArray, List.set_cons_zero, List.set_cons_succ, i64_w, i32_w]
                                    rfl
                                  refine last_ (i := 9) (N := some 48) #[true, true, true, true, true, true, true, true, true, true, false] rfl rfl (one_of HT_.out (by kernel_rfl)) (by decide) (fun K hK => ?_)
                                  refine goes_ Try.func60 (by kernel_rfl) rfl #[.slice Ao42 x4_1.length co42, .agg #[.int .i64 (wrap64 (rd x0_1 0)), .slice A41 y194.length c41]] (by rfl) rfl rfl (by (try simp only [List.map_toArray, List.map_cons, List.map_nil]); first | done | rfl | (simp only [List.length_drop, List.length_take]; rfl)) ?_
                                  with_reducible refine (tlv_join.calls kj7 (fun k_ => some k_ = (.slice Ao42 x4_1.length co42 : Value).ownBlock) (fun k_ => ((P0_ k_ ∨ w.heap.size ≤ k_))) (.slice Ao42 x4_1.length co42) x4_1 (wrap64 (rd x0_1 0)) _ _ y194 t199 w _ ?side1 ?side2 ?side3 ?side4 ?side5 A33.out).mono ?_
                                  (case side1 => repeat (first | (with_reducible first | exact HB.out | apply below_alloc | apply pw_below_drewN | apply below_drew1) | exact HB.out))
                                  (case side2 => exact (by (with_reducible repeat (first | apply Kd.N_alloc | apply Kd.N_drewN | apply Kd.N_drew)); exact HO_4.out))
                                  (case side3 => intro k_ e_; first | exact e_.symm | (simp [Value.ownBlock] at e_))
                                  (case side4 => exact Kd.C_kept_ownV (HO198.out) (fun k_ hk_ hs_ => (hk_.2) hs_))
                                  (case side5 => exact (Kd.V_reads' HO198.out).2.1)
                                  rintro e w43 ⟨v200, rfl, ho0, ht0, hb, hkp⟩
                                  refine ⟨_, rfl, ?_⟩
                                  have n0_ := Aside0.mk (Kd.V_mono (ok' := fun k_ => (P0_ k_ ∨ w.heap.size ≤ k_) ∧ some k_ ≠ (v200 : Value).ownBlock) (Kd.V_keptB (HO_0.out) hkp (fun k_ hk_ hs_ => (hk_.2) hs_)) (fun k_ hk_ => ⟨hk_.1.1, fun e_ => Or.elim (ht0 k_ e_.symm) (fun hs_ => hk_.2.1 hs_) (fun hn_ => Nat.not_le.2 hk_.2.2 hn_)⟩))
                                  have n1_ := Aside0.mk (Kd.V_mono (ok' := fun k_ => (P0_ k_ ∨ w.heap.size ≤ k_) ∧ some k_ ≠ (v200 : Value).ownBlock) (Kd.V_keptB (HO198.out) hkp (fun k_ hk_ hs_ => (hk_.2) hs_)) (fun k_ hk_ => ⟨hk_.1.1, fun e_ => Or.elim (ht0 k_ e_.symm) (fun hs_ => hk_.2.1 hs_) (fun hn_ => Nat.not_le.2 hk_.2.2 hn_)⟩))
                                  have n2_ := Aside0.mk (Kd.N_lower (Kd.N_mono (ok' := fun k_ => (P0_ k_ ∨ w.heap.size ≤ k_)) ho0 (fun k_ hk_ => Or.elim hk_ (fun hs_ => hs_) (fun hn_ => (.inr (Nat.le_trans (below_size (by repeat (first | (with_reducible first | exact HB.out | apply below_alloc | apply pw_below_drewN | apply below_drew1) | exact HB.out))) hn_))))) (Nat.le_refl _))
                                  have n3_ := Aside0.mk (hb)
                                  clear HO_0
                                  clear HO198
                                  clear HB
                                  clear HO_4
                                  have HO_0 := n0_
                                  have HO198 := n1_
                                  have HO201 := n2_
                                  have HB := n3_
                                  clear n0_ n1_ n2_ n3_
                                  (try clear hb)
                                  (try clear hkp)
                                  (try clear ho0)
                                  refine hK.out _ _ ?_
                                  clear hK K
                                  refine norm_ (a' := ?_) ?_ ?_
                                  rotate_left
                                  · show Act.put _ (some 48) _ = _
                                    simp only [Act.put, List.setIfInBounds_toArray, List.set_cons_zero, List.set_cons_succ, i64_w, i32_w]
                                    rfl
                                  refine pure_ (i := 10) (N := some 4) (v := ?_) (a' := ?_) #[true, true, true, true, true, true, true, true, true, true, true] rfl rfl (any_of HT_.out (by kernel_rfl)) (fun _ _ _ h => h) (Or.inl ⟨by rfl, ?_⟩) ?_ ?_
                                  rotate_left
                                  · intro w'
                                    go_simp
                                    with_reducible rfl
                                  rotate_left
                                  · simp only [Act.put, List.setIfInBounds_toArray, List.set_cons_zero, List.set_cons_succ, i64_w, i32_w]
                                    rfl
                                  refine done_ (done_of HT_.out (by kernel_rfl)) ?_
                                  have q44 : ((ji34) : Int) ≤ ((x0_1.length : Int) : Int) := of_decide_eq_true (by first | (with_reducible assumption) | assumption)
                                  obtain ⟨i044, hi044, _, hsz44, _⟩ := info_parts info5
                                  have hroom44 : x0_1.length ≤ co39 := (Kd.V_reads' HO_0.out).2.1
                                  have hC44 : Kd.F (Kd.int .u8) _ _ (some ad185) x0_1.length x0_1 := (Kd.V_at (base := w.heap.size) HO_0.out).2.2
                                  have q044 : (0 : Int) ≤ ((ji34) : Int) := of_decide_eq_true (by first | (with_reducible assumption) | assumption)
                                  have hcut44 := cut_from (P := Try.prog) 25 5 .i64 Try.underlying25 hi044 1 hsz44 (some ad185) x0_1.length co39 (ji34) q044 q44
                                  have hr44 := Kd.F_cut (m := ((ji34) : Int).toNat) (c := co39) hC44 (by omega) hroom44
                                  obtain ⟨A44, hA44⟩ : ∃ A1, A1 = (if co39 = ((ji34) : Int).toNat then (some ad185) else ((some ad185) : Option Addr).map (·.add (((ji34) : Int).toNat * 1))) := ⟨_, rfl⟩
                                  obtain ⟨c44, hc44⟩ : ∃ c1, c1 = co39 - ((ji34) : Int).toNat := ⟨_, rfl⟩
                                  have hy44 : y202.length = x0_1.length - ((ji34) : Int).toNat := (by rw [Ny202.out, List.length_drop] <;> omega)
                                  rw [show (x0_1).drop ((ji34) : Int).toNat = y202 from Ny202.out.symm] at hr44
                                  replace hr44 : Kd.F (Kd.int .u8) _ _ A44 y202.length y202 := (by rw [hA44]; exact hr44)
                                  rw [← hy44, ← hA44, ← hc44] at hcut44
                                  have HO206 := Aside0.mk (show Kd.V (Kd.int .u8) 5 _ w.heap.size _ (.slice A44 y202.length c44) y202 from Kd.V_mk (by rw [hy44, hc44]; exact Nat.sub_le_sub_right hroom44 _) hr44)
                                  have HC206 := Aside0.mk (show y202.length ≤ c44 from by rw [hy44, hc44]; exact Nat.sub_le_sub_right hroom44 _)
                                  clear hr44 hC44 hroom44 hi044 hsz44 hc44
                                  have KY44 := Aside0.mk hy44
                                  have KA44 := Aside0.mk hA44
                                  clear hy44 hA44
                                  replace q44 := eq_true q44
                                  obtain ⟨Ao45, co45, eo45⟩ := Kd.N_slice HO201.out
                                  subst eo45
                                  try go_wp2_with (first | ((with_reducible refine gate_callee (f := 23) rfl ?_); refine goesL_ (some 53) rfl rfl Try.func23 (by kernel_rfl) rfl #[.slice Ao45 t199.length co45] rfl (by (try simp only [List.map_toArray, List.map_cons, List.map_nil]); first | done | rfl | (simp only [List.length_drop, List.length_take]; rfl)) ?_; (with_reducible refine (tlv_Right.calls kj7 _ _ t199 true _ ?side1 ?side2 A37.out).mono ?_); (case side1 => repeat (first | exact (Kd.N_reads' HO201.out).2.2 | (with_reducible refine Kd.C_alloc ?_ _) | (with_reducible refine Kd.C_drewN ?_ _) | (with_reducible refine Kd.C_drew ?_))); (case side2 => exact (Kd.N_reads' HO201.out).2.1); rintro e w46 ⟨rfl, hb⟩; refine ⟨_, rfl, ?_⟩; have n0_ := Aside0.mk (Kd.V_below (by (with_reducible repeat (first | apply Kd.V_alloc | apply Kd.V_drewN | apply Kd.V_drew)); exact HO_0.out) hb); have n1_ := Aside0.mk (Kd.V_below (by (with_reducible repeat (first | apply Kd.V_alloc | apply Kd.V_drewN | apply Kd.V_drew)); exact HO198.out) hb); have n2_ := Aside0.mk (Kd.N_below (by (with_reducible repeat (first | apply Kd.N_alloc | apply Kd.N_drewN | apply Kd.N_drew)); exact HO201.out) hb); have n3_ := Aside0.mk (Kd.V_below (by (with_reducible repeat (first | apply Kd.V_alloc | apply Kd.V_drewN | apply Kd.V_drew)); exact HO206.out) hb); have n4_ := Aside0.mk (below_step (by repeat (first | (with_reducible first | exact HB.out | apply below_alloc | apply pw_below_drewN | apply below_drew1) | exact HB.out)) hb); clear HO_0; clear HO198; clear HO201; clear HO206; clear HB; have HO_0 := n0_; have HO198 := n1_; have HO201 := n2_; have HO206 := n3_; have HB := n4_; clear n0_ n1_ n2_ n3_ n4_; (try clear hb); (try clear hb2); (try clear hk); (try clear hi)))
                                  go_roundg kj7
                                  case measure => have := HK1.out; have := HJ1.out; have := HJ7.out; omega
                                  case rel => exact ⟨(y202), (t199), H', ⟨by have := HK1.out; have := HJ1.out; have := HJ7.out; omega⟩, ⟨by (with_reducible repeat (first | apply Kd.V_alloc | apply Kd.V_drewN | apply Kd.V_drew)); exact HO206.out⟩, ⟨by (with_reducible repeat (first | apply Kd.N_alloc | apply Kd.N_drewN | apply Kd.N_drew)); exact HO201.out⟩, ⟨by repeat (first | (with_reducible first | exact HB.out | apply below_alloc | apply pw_below_drewN | apply below_drew1) | exact HB.out)⟩⟩
                                · replace c38 := Bool.eq_false_iff.mpr c38
                                  subst c38
                                  have H1 : (some (([] : List (S70)), 3)) = some (r1, r2) := by rw [if_neg (show ¬ (false = true) by decide)] at H; exact H
                                  clear H
                                  have H := H1
                                  clear H1
                                  simp only [Option.some.injEq, Prod.mk.injEq] at H
                                  obtain ⟨rfl, rfl⟩ := H
                                  obtain ⟨Ao47, co47, eo47⟩ := Kd.V_slice HO_0.out
                                  subst eo47
                                  have p185 : 0 ≤ (0 : Int) := (by omega)
                                  have q185 : 0 < (x0_1.length : Int) := of_decide_eq_true (by first | (with_reducible assumption) | assumption)
                                  obtain ⟨ad185, e185, hx185_0⟩ := Kd.at_int (Kd.V_reads' HO_0.out).2.2 0 p185 q185
                                  cases e185
                                  have qi185 : (0 < x0_1.length) = True := eq_true (by omega)
                                  (try rw [show ((0 : Int)).toNat = 0 from rfl] at hx185_0)
                                  (try rw [Addr.add_zero'] at hx185_0)
                                  replace p185 := eq_true p185
                                  replace q185 := eq_true q185
                                  have p192 : 0 ≤ (1 : Int) := (by omega)
                                  have q192 : 1 < (x0_1.length : Int) := of_decide_eq_true (by first | (with_reducible assumption) | assumption)
                                  obtain ⟨ad192, e192, hx192_0⟩ := Kd.at_int (Kd.V_reads' HO_0.out).2.2 1 p192 q192
                                  obtain rfl : ad185 = ad192 := (by injection e192)
                                  (try simp only [show (1 : Int).toNat = 1 from rfl, Nat.reduceMul, Nat.reduceEqDiff, Go.Addr.add, ↓reduceIte] at hx192_0)
                                  have qi192 : (1 < x0_1.length) = True := eq_true (by omega)
                                  (try rw [show ((1 : Int)).toNat = 1 from rfl] at hx192_0)
                                  replace p192 := eq_true p192
                                  replace q192 := eq_true q192
                                  try go_wp2
                                  have n0_ := Aside0.mk (Kd.V_drew HO_0.out)
                                  have n1_ := Aside0.mk (Kd.N_drew HO_4.out)
                                  have n2_ := Aside0.mk (below_drew1 HB.out)
                                  clear HO_0
                                  clear HO_4
                                  clear HB
                                  have HO_0 := n0_
                                  have HO_4 := n1_
                                  have HB := n2_
                                  clear n0_ n1_ n2_
                                  have p193 : 0 ≤ (0 : Int) := (by omega)
                                  have q193 : 0 < (x0_1.length : Int) := of_decide_eq_true (by first | (with_reducible assumption) | assumption)
                                  obtain ⟨ad193, e193, hx193_0⟩ := Kd.at_int (Kd.V_reads' HO_0.out).2.2 0 p193 q193
                                  obtain rfl : ad185 = ad193 := (by injection e193)
                                  have qi193 : (0 < x0_1.length) = True := eq_true (by omega)
                                  (try rw [show ((0 : Int)).toNat = 0 from rfl] at hx193_0)
                                  (try rw [Addr.add_zero'] at hx193_0)
                                  replace p193 := eq_true p193
                                  replace q193 := eq_true q193
                                  have q49 : ((ji34) : Int) ≤ ((x0_1.length : Int) : Int) := of_decide_eq_true (by first | (with_reducible assumption) | assumption)
                                  obtain ⟨i049, hi049, _, hsz49, _⟩ := info_parts info5
                                  have hroom49 : x0_1.length ≤ co47 := (Kd.V_reads' HO_0.out).2.1
                                  have hC49 : Kd.F (Kd.int .u8) _ _ (some ad185) x0_1.length x0_1 := (Kd.V_at (base := w.heap.size) HO_0.out).2.2
                                  have ql49 : (2 : Int) ≤ ((ji34) : Int) := of_decide_eq_true (by first | (with_reducible assumption) | assumption)
                                  have hcut49 := cut_mid (P := Try.prog) 25 5 .i64 .i64 Try.underlying25 hi049 1 hsz49 (some ad185) x0_1.length co47 2 (ji34) (by omega) ql49 q49 hroom49
                                  have hr49 := Kd.F_mid (lo := (2 : Int).toNat) (hi := ((ji34) : Int).toNat) (c := co47) hC49 (by omega) (by omega) hroom49
                                  obtain ⟨A49, hA49⟩ : ∃ A1, A1 = (if co47 = (2 : Int).toNat then (some ad185) else ((some ad185) : Option Addr).map (·.add ((2 : Int).toNat * 1))) := ⟨_, rfl⟩
                                  obtain ⟨c49, hc49⟩ : ∃ c1, c1 = co47 - (2 : Int).toNat := ⟨_, rfl⟩
                                  have hy49 : y194.length = ((ji34) : Int).toNat - (2 : Int).toNat := (by rw [Ny194.out, List.length_drop, List.length_take] <;> omega)
                                  rw [show ((x0_1).take ((ji34) : Int).toNat).drop (2 : Int).toNat = y194 from Ny194.out.symm] at hr49
                                  replace hr49 : Kd.F (Kd.int .u8) _ _ A49 y194.length y194 := (by rw [hA49]; exact hr49)
                                  rw [← hy49, ← hA49, ← hc49] at hcut49
                                  have HO198 := Aside0.mk (show Kd.V (Kd.int .u8) 5 _ w.heap.size _ (.slice A49 y194.length c49) y194 from Kd.V_mk (by rw [hy49, hc49]; exact Nat.sub_le_sub_right (Nat.le_trans (by omega) hroom49) _) hr49)
                                  have HC198 := Aside0.mk (show y194.length ≤ c49 from by rw [hy49, hc49]; exact Nat.sub_le_sub_right (Nat.le_trans (by omega) hroom49) _)
                                  clear hr49 hC49 hroom49 hi049 hsz49 hc49
                                  have KY49 := Aside0.mk hy49
                                  have KA49 := Aside0.mk hA49
                                  clear hy49 hA49
                                  replace q49 := eq_true q49
                                  obtain ⟨Ao50, co50, eo50⟩ := Kd.N_slice HO_4.out
                                  (first | subst eo50 | (injection eo50 with f1_ f2_ f3_; have f4_ := f1_.symm; have f5_ := f3_.symm; clear f1_ f2_ f3_; subst f4_; subst f5_))
                                  refine start_ (n := 11) (S := fun w' => w'.cell? ad185 = some (.int .u8 (rd x0_1 0))) (ds := [9]) #[false, false, false, false, false, false, false, false, false, false, false] (by kernel_rfl) rfl rfl (hx193_0) (fun hHeld => ?_); refine with_tabW tlv_Read.tab10 tlv_Read.bits10 (fun HT_ HW_ => ?_)
                                  generalize wc.drew = w48 at HO_0 HO_4 HB HO198 hx193_0 hHeld ⊢
                                  refine pure_ (i := 0) (N := some 39) (v := ?_) (a' := ?_) #[true, false, false, false, false, false, false, false, false, false, false] rfl rfl (any_of HT_.out (by kernel_rfl)) (fun _ _ _ h => h) (Or.inl ⟨by rfl, ?_⟩) ?_ ?_
                                  rotate_left
                                  · intro w'
                                    go_simp
                                    with_reducible rfl
                                  rotate_left
                                  · simp only [Act.put, List.setIfInBounds_toArray, List.set_cons_zero, List.set_cons_succ, i64_w, i32_w]
                                    rfl
                                  refine pure_ (i := 1) (N := some 40) (v := ?_) (a' := ?_) #[true, true, false, false, false, false, false, false, false, false, false] rfl rfl (any_of HT_.out (by kernel_rfl)) (fun _ _ _ h => h) (Or.inl ⟨by rfl, ?_⟩) ?_ ?_
                                  rotate_left
                                  · intro w'
                                    go_simp
                                    with_reducible rfl
                                  rotate_left
                                  · simp only [Act.put, List.setIfInBounds_toArray, List.set_cons_zero, List.set_cons_succ, i64_w, i32_w]
                                    rfl
                                  refine pure_ (i := 2) (N := some 41) (v := ?_) (a' := ?_) #[true, true, true, false, false, false, false, false, false, false, false] rfl rfl (any_of HT_.out (by kernel_rfl)) (fun _ _ _ h => h) (Or.inl ⟨by rfl, ?_⟩) ?_ ?_
                                  rotate_left
                                  · intro w'
                                    go_simp
                                    with_reducible rfl
                                  rotate_left
                                  · simp only [Act.put, List.setIfInBounds_toArray, List.set_cons_zero, List.set_cons_succ, i64_w, i32_w]
                                    rfl
                                  refine pure_ (i := 5) (N := some 44) (v := ?_) (a' := ?_) #[true, true, true, false, false, true, false, false, false, false, false] rfl rfl (any_of HT_.out (by kernel_rfl)) (fun _ _ _ h => h) (Or.inl ⟨by rfl, ?_⟩) ?_ ?_
                                  rotate_left
                                  · intro w'
                                    go_simp
                                    with_reducible rfl
                                  rotate_left
                                  · simp only [Act.put, List.setIfInBounds_toArray, List.set_cons_zero, List.set_cons_succ, i64_w, i32_w]
                                    rfl
                                  refine pure_ (i := 6) (N := some 45) (v := ?_) (a' := ?_) #[true, true, true, false, false, true, true, false, false, false, false] rfl rfl (any_of HT_.out (by kernel_rfl)) (fun _ _ _ h => h) (Or.inl ⟨by rfl, ?_⟩) ?_ ?_
                                  rotate_left
                                  · intro w'
                                    go_simp
                                    with_reducible rfl
                                  rotate_left
                                  · simp only [Act.put, List.setIfInBounds_toArray, List.set_cons_zero, List.set_cons_succ, i64_w, i32_w]
                                    rfl
                                  refine pure_ (i := 7) (N := some 46) (v := ?_) (a' := ?_) #[true, true, true, false, false, true, true, true, false, false, false] rfl rfl (any_of HT_.out (by kernel_rfl)) (fun _ _ _ h => h) (Or.inl ⟨by rfl, ?_⟩) ?_ ?_
                                  rotate_left
                                  · intro w'
                                    go_simp
                                    with_reducible rfl
                                  rotate_left
                                  · simp only [Act.put, List.setIfInBounds_toArray, List.set_cons_zero, List.set_cons_succ, i64_w, i32_w]
                                    rfl
                                  refine take_ (i := 3) (N := some 42) (v := ?_) (a' := ?_) #[true, true, true, true, false, true, true, true, false, false, false] rfl rfl (take_ofW HT_.out HW_.out (by kernel_rfl)) (fun _ _ _ h => h) (Or.inl ⟨by rfl, ?_⟩) hHeld ?_ ?_
                                  rotate_left
                                  · intro w' s0
                                    go_simp
                                    with_reducible rfl
                                  rotate_left
                                  · simp only [Act.put, List.setIfInBounds_toArray, List.set_cons_zero, List.set_cons_succ, i64_w, i32_w]
                                    rfl
                                  refine pure_ (i := 4) (N := some 43) (v := ?_) (a' := ?_) #[true, true, true, true, true, true, true, true, false, false, false] rfl rfl (any_of HT_.out (by kernel_rfl)) (fun _ _ _ h => h) (Or.inl ⟨by rfl, ?_⟩) ?_ ?_
                                  rotate_left
                                  · intro w'
                                    go_simp
                                    with_reducible rfl
                                  rotate_left
                                  · simp only [Act.put, List.setIfInBounds_toArray, List.set_cons_zero, List.set_cons_succ, i64_w, i32_w]
                                    rfl
                                  refine pure_ (i := 8) (N := some 47) (v := ?_) (a' := ?_) #[true, true, true, true, true, true, true, true, true, false, false] rfl rfl (any_of HT_.out (by kernel_rfl)) (fun _ _ _ h => h) (Or.inl ⟨by rfl, ?_⟩) ?_ ?_
                                  rotate_left
                                  · intro w'
                                    go_simp
                                    with_reducible rfl
                                  rotate_left
                                  · simp only [Act.put, List.setIfInBounds_toArray, List.set_cons_zero, List.set_cons_succ, i64_w, i32_w]
                                    rfl
                                  refine last_ (i := 9) (N := some 48) #[true, true, true, true, true, true, true, true, true, true, false] rfl rfl (one_of HT_.out (by kernel_rfl)) (by decide) (fun K hK => ?_)
                                  refine goes_ Try.func60 (by kernel_rfl) rfl #[.slice Ao50 x4_1.length co50, .agg #[.int .i64 (wrap64 (rd x0_1 0)), .slice A49 y194.length c49]] (by rfl) rfl rfl (by (try simp only [List.map_toArray, List.map_cons, List.map_nil]); first | done | rfl | (simp only [List.length_drop, List.length_take]; rfl)) ?_
                                  with_reducible refine (tlv_join.calls kj7 (fun k_ => some k_ = (.slice Ao50 x4_1.length co50 : Value).ownBlock) (fun k_ => ((P0_ k_ ∨ w.heap.size ≤ k_))) (.slice Ao50 x4_1.length co50) x4_1 (wrap64 (rd x0_1 0)) _ _ y194 t199 w _ ?side1 ?side2 ?side3 ?side4 ?side5 A33.out).mono ?_
                                  (case side1 => repeat (first | (with_reducible first | exact HB.out | apply below_alloc | apply pw_below_drewN | apply below_drew1) | exact HB.out))
                                  (case side2 => exact (by (with_reducible repeat (first | apply Kd.N_alloc | apply Kd.N_drewN | apply Kd.N_drew)); exact HO_4.out))
                                  (case side3 => intro k_ e_; first | exact e_.symm | (simp [Value.ownBlock] at e_))
                                  (case side4 => exact Kd.C_kept_ownV (HO198.out) (fun k_ hk_ hs_ => (hk_.2) hs_))
                                  (case side5 => exact (Kd.V_reads' HO198.out).2.1)
                                  rintro e w51 ⟨v200, rfl, ho0, ht0, hb, hkp⟩
                                  refine ⟨_, rfl, ?_⟩
                                  have n0_ := Aside0.mk (Kd.V_mono (ok' := fun k_ => (P0_ k_ ∨ w.heap.size ≤ k_) ∧ some k_ ≠ (v200 : Value).ownBlock) (Kd.V_keptB (HO_0.out) hkp (fun k_ hk_ hs_ => (hk_.2) hs_)) (fun k_ hk_ => ⟨hk_.1.1, fun e_ => Or.elim (ht0 k_ e_.symm) (fun hs_ => hk_.2.1 hs_) (fun hn_ => Nat.not_le.2 hk_.2.2 hn_)⟩))
                                  have n1_ := Aside0.mk (Kd.V_mono (ok' := fun k_ => (P0_ k_ ∨ w.heap.size ≤ k_) ∧ some k_ ≠ (v200 : Value).ownBlock) (Kd.V_keptB (HO198.out) hkp (fun k_ hk_ hs_ => (hk_.2) hs_)) (fun k_ hk_ => ⟨hk_.1.1, fun e_ => Or.elim (ht0 k_ e_.symm) (fun hs_ => hk_.2.1 hs_) (fun hn_ => Nat.not_le.2 hk_.2.2 hn_)⟩))
                                  have n2_ := Aside0.mk (Kd.N_lower (Kd.N_mono (ok' := fun k_ => (P0_ k_ ∨ w.heap.size ≤ k_)) ho0 (fun k_ hk_ => Or.elim hk_ (fun hs_ => hs_) (fun hn_ => (.inr (Nat.le_trans (below_size (by repeat (first | (with_reducible first | exact HB.out | apply below_alloc | apply pw_below_drewN | apply below_drew1) | exact HB.out))) hn_))))) (Nat.le_refl _))
                                  have n3_ := Aside0.mk (hb)
                                  clear HO_0
                                  clear HO198
                                  clear HB
                                  clear HO_4
                                  have HO_0 := n0_
                                  have HO198 := n1_
                                  have HO201 := n2_
                                  have HB := n3_
                                  clear n0_ n1_ n2_ n3_
                                  (try clear hb)
                                  (try clear hkp)
                                  (try clear ho0)
                                  refine hK.out _ _ ?_
                                  clear hK K
                                  refine norm_ (a' := ?_) ?_ ?_
                                  rotate_left
                                  · show Act.put _ (some 48) _ = _
                                    simp only [Act.put, List.setIfInBounds_toArray, List.set_cons_zero, List.set_cons_succ, i64_w, i32_w]
                                    rfl
                                  refine pure_ (i := 10) (N := some 4) (v := ?_) (a' := ?_) #[true, true, true, true, true, true, true, true, true, true, true] rfl rfl (any_of HT_.out (by kernel_rfl)) (fun _ _ _ h => h) (Or.inl ⟨by rfl, ?_⟩) ?_ ?_
                                  rotate_left
                                  · intro w'
                                    go_simp
                                    with_reducible rfl
                                  rotate_left
                                  · simp only [Act.put, List.setIfInBounds_toArray, List.set_cons_zero, List.set_cons_succ, i64_w, i32_w]
                                    rfl
                                  refine done_ (done_of HT_.out (by kernel_rfl)) ?_
                                  have q52 : ((ji34) : Int) ≤ ((x0_1.length : Int) : Int) := of_decide_eq_true (by first | (with_reducible assumption) | assumption)
                                  obtain ⟨i052, hi052, _, hsz52, _⟩ := info_parts info5
                                  have hroom52 : x0_1.length ≤ co47 := (Kd.V_reads' HO_0.out).2.1
                                  have hC52 : Kd.F (Kd.int .u8) _ _ (some ad185) x0_1.length x0_1 := (Kd.V_at (base := w.heap.size) HO_0.out).2.2
                                  have q052 : (0 : Int) ≤ ((ji34) : Int) := of_decide_eq_true (by first | (with_reducible assumption) | assumption)
                                  have hcut52 := cut_from (P := Try.prog) 25 5 .i64 Try.underlying25 hi052 1 hsz52 (some ad185) x0_1.length co47 (ji34) q052 q52
                                  have hr52 := Kd.F_cut (m := ((ji34) : Int).toNat) (c := co47) hC52 (by omega) hroom52
                                  obtain ⟨A52, hA52⟩ : ∃ A1, A1 = (if co47 = ((ji34) : Int).toNat then (some ad185) else ((some ad185) : Option Addr).map (·.add (((ji34) : Int).toNat * 1))) := ⟨_, rfl⟩
                                  obtain ⟨c52, hc52⟩ : ∃ c1, c1 = co47 - ((ji34) : Int).toNat := ⟨_, rfl⟩
                                  have hy52 : y202.length = x0_1.length - ((ji34) : Int).toNat := (by rw [Ny202.out, List.length_drop] <;> omega)
                                  rw [show (x0_1).drop ((ji34) : Int).toNat = y202 from Ny202.out.symm] at hr52
                                  replace hr52 : Kd.F (Kd.int .u8) _ _ A52 y202.length y202 := (by rw [hA52]; exact hr52)
                                  rw [← hy52, ← hA52, ← hc52] at hcut52
                                  have HO206 := Aside0.mk (show Kd.V (Kd.int .u8) 5 _ w.heap.size _ (.slice A52 y202.length c52) y202 from Kd.V_mk (by rw [hy52, hc52]; exact Nat.sub_le_sub_right hroom52 _) hr52)
                                  have HC206 := Aside0.mk (show y202.length ≤ c52 from by rw [hy52, hc52]; exact Nat.sub_le_sub_right hroom52 _)
                                  clear hr52 hC52 hroom52 hi052 hsz52 hc52
                                  have KY52 := Aside0.mk hy52
                                  have KA52 := Aside0.mk hA52
                                  clear hy52 hA52
                                  replace q52 := eq_true q52
                                  obtain ⟨Ao53, co53, eo53⟩ := Kd.N_slice HO201.out
                                  subst eo53
                                  try go_wp2_with (first | ((with_reducible refine gate_callee (f := 23) rfl ?_); refine goesL_ (some 53) rfl rfl Try.func23 (by kernel_rfl) rfl #[.slice Ao53 t199.length co53] rfl (by (try simp only [List.map_toArray, List.map_cons, List.map_nil]); first | done | rfl | (simp only [List.length_drop, List.length_take]; rfl)) ?_; (with_reducible refine (tlv_Right.calls kj7 _ _ t199 false _ ?side1 ?side2 A37.out).mono ?_); (case side1 => repeat (first | exact (Kd.N_reads' HO201.out).2.2 | (with_reducible refine Kd.C_alloc ?_ _) | (with_reducible refine Kd.C_drewN ?_ _) | (with_reducible refine Kd.C_drew ?_))); (case side2 => exact (Kd.N_reads' HO201.out).2.1); rintro e w54 ⟨rfl, hb⟩; refine ⟨_, rfl, ?_⟩; have n0_ := Aside0.mk (Kd.V_below (by (with_reducible repeat (first | apply Kd.V_alloc | apply Kd.V_drewN | apply Kd.V_drew)); exact HO_0.out) hb); have n1_ := Aside0.mk (Kd.V_below (by (with_reducible repeat (first | apply Kd.V_alloc | apply Kd.V_drewN | apply Kd.V_drew)); exact HO198.out) hb); have n2_ := Aside0.mk (Kd.N_below (by (with_reducible repeat (first | apply Kd.N_alloc | apply Kd.N_drewN | apply Kd.N_drew)); exact HO201.out) hb); have n3_ := Aside0.mk (Kd.V_below (by (with_reducible repeat (first | apply Kd.V_alloc | apply Kd.V_drewN | apply Kd.V_drew)); exact HO206.out) hb); have n4_ := Aside0.mk (below_step (by repeat (first | (with_reducible first | exact HB.out | apply below_alloc | apply pw_below_drewN | apply below_drew1) | exact HB.out)) hb); clear HO_0; clear HO198; clear HO201; clear HO206; clear HB; have HO_0 := n0_; have HO198 := n1_; have HO201 := n2_; have HO206 := n3_; have HB := n4_; clear n0_ n1_ n2_ n3_ n4_; (try clear hb); (try clear hb2); (try clear hk); (try clear hi)))
                                  go_ret2
                                  exact ⟨_, by first | rfl | (simp [errW_none, errW_some] <;> rfl) | (simp only [← hji34]; first | rfl | (simp [errW_none, errW_some] <;> rfl)) | (simp [*, errW_none, errW_some] <;> rfl), by first | exact Kd.S_nil _ _ _ _ _ | exact Kd.N_nil _ _ _ _ _ | exact Kd.V_nil _ _ _ _ _ | exact Kd.Q_nil _ _ _ _ _ | exact Kd.R_nil _ _ _ _ _, by repeat (first | (with_reducible first | exact HB.out | apply below_alloc | apply pw_below_drewN | apply below_drew1) | exact HB.out)⟩
                              · rw [if_neg c35] at H
                                exact absurd H (by simp)
                            · rw [if_neg c32] at H
                              exact absurd H (by simp)
                          · rw [if_neg c31] at H
                            exact absurd H (by simp)
                      · rw [if_neg c28] at H
                        exact absurd H (by simp)
                  · rw [if_neg c14] at H
                    exact absurd H (by simp)
          · replace c7 := Bool.eq_false_iff.mpr c7
            subst c7
            have H1 : (some (x4_1, 0)) = some (r1, r2) := by rw [if_neg (show ¬ (false = true) by decide)] at H; exact H
            clear H
            have H := H1
            clear H1
            simp only [Option.some.injEq, Prod.mk.injEq] at H
            obtain ⟨rfl, rfl⟩ := H
            go_wp2
            go_ret2
            exact ⟨_, by first | rfl | (simp [errW_none, errW_some] <;> rfl) | (simp [*, errW_none, errW_some] <;> rfl), by (with_reducible repeat (first | apply Kd.N_alloc | apply Kd.N_drewN | apply Kd.N_drew)); exact HO_4.out, by repeat (first | (with_reducible first | exact HB.out | apply below_alloc | apply pw_below_drewN | apply below_drew1) | exact HB.out)⟩

end Go.Proofs.Ytiklcnlehlpdaaa.PTlj
