-- printed by a program of this session, made after the kit's own printer
import Derived.Test.YtiklcnlehlpdaaaPTljx0
import Derived.Test.YtiklcnlehlpdaaaPTljx1
namespace Go.Proofs.Ytiklcnlehlpdaaa.PTlj
open Go.RowKit Go.Proofs.YtiklcnlehlpdaaaW.PrintWords Go.Proofs.YtiklcnlehlpdaaaW.PrintLast Go.Proofs.YtiklcnlehlpdaaaW.PrintMore
attribute [local go_sem] max2_int min2_int max_two min_two max_three min_three max_four min_four   -- for this text's walks alone
set_option linter.unusedVariables false
set_option linter.unusedSimpArgs false

/-! ### tlv_join: function 60 -/
def tlv_join.f (k : Nat) (l0 : List (S70)) (a1_0 : Int) (l1_1 : List Int) : Option ((List (S70))) := (tlv_at.f k l0 a1_0).bind fun t162 => (if t162 < 0 then ((some (([] : List Int) : List Int)).bind fun y163 => (if y163.length + l1_1.length < 140737488355328 then (if l0.length < 4398046511104 then (some (l0 ++ [(⟨a1_0, (y163 ++ l1_1)⟩ : S70)])) else (none)) else (none))) else ((some (([] : List Int) : List Int)).bind fun y172 => (if 0 ≤ t162 then (if t162 < (l0.length : Int) then (if y172.length + ((rd_T70 l0 t162).f1).length < 140737488355328 then ((some (y172 ++ ((rd_T70 l0 t162).f1) : List Int)).bind fun y176 => (if y176.length + l1_1.length < 140737488355328 then (some (l0.set (t162 : Int).toNat (⟨(rd_T70 l0 t162).f0, (y176 ++ l1_1)⟩ : S70))) else (none))) else (none)) else (none)) else (none))))
theorem tlv_join.mono : ∀ a0 a1 a2 k, LeO (tlv_join.f k a0 a1 a2) (tlv_join.f (k + 1) a0 a1 a2) := by
  intro a0 a1 a2 k
  unfold tlv_join.f
  repeat' first
      | (with_reducible exact tlv_at.mono _ _ _)
      | (with_reducible exact LeO.refl _)
      | (with_reducible exact LeO.none _)
      | (with_reducible refine LeO.ite ?_ ?_)
      | (with_reducible refine LeO.bind ?_ (fun _ => ?_))
      | exact tlv_at.mono _ _ _
      | exact LeO.none _
      | refine LeO.ite ?_ ?_
      | refine LeO.bind ?_ (fun _ => ?_)
def tlv_join.T3 : Bool × List (List Nat × List Nat) := (true, [([], []), ([], []), ([1], [1]), ([], []), ([], []), ([4], [4]), ([3, 5], [3, 5]), ([2, 6], [2, 6]), ([7], [7]), ([0, 8, 6], [0, 8]), ([9, 9, 0, 1, 2, 3, 4, 5, 6, 7, 8, 9], [9])])
def tlv_join.B3 : List Nat := [0, 0, 2, 0, 0, 16, 56, 126, 254, 511, 1023]
theorem tlv_join.tab3 : rtab .any (opsOf Try.f60 3) = tlv_join.T3 := by kernel_rfl
theorem tlv_join.bits3 : waitsOk tlv_join.T3.2 tlv_join.B3 = true := by kernel_rfl
def tlv_join.T4 : Bool × List (List Nat × List Nat) := (true, [([], []), ([], []), ([], []), ([], []), ([], []), ([3, 4], [3, 4]), ([5], [5]), ([6], [6]), ([2, 7], [2, 7]), ([], []), ([9], [9]), ([8, 10, 8], [8, 10]), ([0, 1, 0, 1, 2, 3, 4, 5, 6, 7, 8, 9, 10, 11], [0, 1]), ([12, 0, 1, 2, 3, 4, 5, 6, 7, 8, 9, 10, 11], [12]), ([13, 11, 11, 0, 1, 2, 3, 4, 5, 6, 7, 8, 9, 10, 11], [11, 13])])
def tlv_join.B4 : List Nat := [0, 0, 0, 0, 0, 24, 56, 120, 252, 0, 512, 2044, 4095, 8191, 16383]
theorem tlv_join.tab4 : rtab .any (opsOf Try.f60 4) = tlv_join.T4 := by kernel_rfl
theorem tlv_join.bits4 : waitsOk tlv_join.T4.2 tlv_join.B4 = true := by kernel_rfl
set_option maxHeartbeats 8000000 in
set_option maxRecDepth 100000 in
theorem tlv_join.calls (k : Nat) (P0_ Q0_ : Nat → Prop) (u9000_ : Value) (l0 : List (S70)) (a1_0 : Int) (A1_1 : Option Addr) (c1_1 : Nat) (l1_1 : List Int) (r : List (S70)) (w0 w : World) (hB : Below w0.heap.size w0 w) (ho0 : Kd.N k70 70 w w0.heap.size Q0_ u9000_ l0) (hu0 : ∀ k_, (u9000_ : Value).ownBlock = some k_ → P0_ k_) (hr1_1 : ∀ W_, Kept w W_ (fun k_ => P0_ k_) → Kd.C (Kd.int .u8) W_ A1_1 l1_1.length l1_1) (hc1_1 : l1_1.length ≤ c1_1) (h : tlv_join.f k l0 a1_0 l1_1 = some r) :
    Calls Try.prog 60 #[u9000_, .agg #[.int .i64 a1_0, .slice A1_1 l1_1.length c1_1]] w fun e w' => ∃ v0_ : Value, e = .returned (v0_) ∧ Kd.N k70 70 w' w0.heap.size (fun k_ => (Q0_ k_ ∨ w.heap.size ≤ k_)) v0_ r ∧ (∀ k_, (v0_ : Value).ownBlock = some k_ → P0_ k_ ∨ w.heap.size ≤ k_) ∧ Below w0.heap.size w0 w' ∧ Kept w w' (fun k_ => P0_ k_) := by
  have hu70 := Try.underlying70
  have HO0 := Aside0.mk (show Kd.N k70 70 w w0.heap.size (fun k_ => (Q0_ k_ ∨ w.heap.size ≤ k_)) u9000_ l0 from Kd.N_mono ho0 (fun k_ hk => .inl hk))
  have HR1_1 := Aside0.mk hr1_1
  have HC1_1 := Aside0.mk hc1_1
  clear hr1_1 hc1_1
  have HK := Aside0.mk (Kept.refl w (fun k_ => P0_ k_))
  have HW0 := Aside0.mk hB.size
  have HB := Aside0.mk hB
  clear hB
  have H : ((tlv_at.f k l0 a1_0).bind fun t162 => (if t162 < 0 then ((some (([] : List Int) : List Int)).bind fun y163 => (if y163.length + l1_1.length < 140737488355328 then (if l0.length < 4398046511104 then (some (l0 ++ [(⟨a1_0, (y163 ++ l1_1)⟩ : S70)])) else (none)) else (none))) else ((some (([] : List Int) : List Int)).bind fun y172 => (if 0 ≤ t162 then (if t162 < (l0.length : Int) then (if y172.length + ((rd_T70 l0 t162).f1).length < 140737488355328 then ((some (y172 ++ ((rd_T70 l0 t162).f1) : List Int)).bind fun y176 => (if y176.length + l1_1.length < 140737488355328 then (some (l0.set (t162 : Int).toNat (⟨(rd_T70 l0 t162).f0, (y176 ++ l1_1)⟩ : S70))) else (none))) else (none)) else (none)) else (none))))) = some r := h
  clear h
  replace H := Option.bind_eq_some_iff.mp H
  obtain ⟨t162, A30, H⟩ := H
  replace H : (if t162 < 0 then ((some (([] : List Int) : List Int)).bind fun y163 => (if y163.length + l1_1.length < 140737488355328 then (if l0.length < 4398046511104 then (some (l0 ++ [(⟨a1_0, (y163 ++ l1_1)⟩ : S70)])) else (none)) else (none))) else ((some (([] : List Int) : List Int)).bind fun y172 => (if 0 ≤ t162 then (if t162 < (l0.length : Int) then (if y172.length + ((rd_T70 l0 t162).f1).length < 140737488355328 then ((some (y172 ++ ((rd_T70 l0 t162).f1) : List Int)).bind fun y176 => (if y176.length + l1_1.length < 140737488355328 then (some (l0.set (t162 : Int).toNat (⟨(rd_T70 l0 t162).f0, (y176 ++ l1_1)⟩ : S70))) else (none))) else (none)) else (none)) else (none)))) = some r := H
  have A3 := Aside0.mk A30
  clear A30
  by_cases c4 : t162 < 0
  · rw [if_pos c4] at H
    have c4b0 : decide (t162 < 0) = true := decide_eq_true c4
    clear c4
    obtain ⟨y163, hy163⟩ : ∃ y_ : List Int, y_ = (([] : List Int)) := ⟨_, rfl⟩
    replace H : (if y163.length + l1_1.length < 140737488355328 then (if l0.length < 4398046511104 then (some (l0 ++ [(⟨a1_0, (y163 ++ l1_1)⟩ : S70)])) else (none)) else (none)) = some r := by first | (rw [hy163]; with_reducible exact H) | (have H2_ := (Option.bind_some _ _).symm.trans H; rw [hy163]; with_reducible exact H2_) | (have H2_ := (Option.bind_some _ _).symm.trans H; with_reducible exact H2_) | with_reducible exact H | (rw [hy163]; exact H) | exact H
    have Ny163 := Aside0.mk hy163
    clear hy163
    by_cases c5 : y163.length + l1_1.length < 140737488355328
    · rw [if_pos c5] at H
      have LMc5 := Aside0.mk c5
      clear c5
      obtain ⟨y166, hy166⟩ : ∃ y_ : List Int, y_ = (y163 ++ l1_1) := ⟨_, rfl⟩
      replace H : (if l0.length < 4398046511104 then (some (l0 ++ [(⟨a1_0, y166⟩ : S70)])) else (none)) = some r := by first | (rw [hy166]; with_reducible exact H) | (have H2_ := (Option.bind_some _ _).symm.trans H; rw [hy166]; with_reducible exact H2_) | (have H2_ := (Option.bind_some _ _).symm.trans H; with_reducible exact H2_) | with_reducible exact H | (rw [hy166]; exact H) | exact H
      have Ny166 := Aside0.mk hy166
      clear hy166
      by_cases c6 : l0.length < 4398046511104
      · rw [if_pos c6] at H
        have LMc6 := Aside0.mk c6
        clear c6
        obtain ⟨y169, hy169⟩ : ∃ y_ : List (S70), y_ = (l0 ++ [(⟨a1_0, y166⟩ : S70)]) := ⟨_, rfl⟩
        replace H : (some y169) = some r := by first | (rw [hy169]; with_reducible exact H) | (have H2_ := (Option.bind_some _ _).symm.trans H; rw [hy169]; with_reducible exact H2_) | (have H2_ := (Option.bind_some _ _).symm.trans H; with_reducible exact H2_) | with_reducible exact H | (rw [hy169]; exact H) | exact H
        have Ny169 := Aside0.mk hy169
        clear hy169
        obtain rfl := Option.some.inj H
        go_enter Try.func60, Try.ntmps60
        try go_wp2_with (first | ((with_reducible refine gate_dst (N := 3) rfl ?_); refine box_event ?hg (N := 3) ?hd (cs := #[.int .i64 a1_0, .slice A1_1 l1_1.length c1_1]) (t := 70) ?hr ?_; (case hd => rfl); (case hg => rfl); (case hr => first | (go_simp; done) | (go_simp; rfl)); intro gb161 hg w7 hbox hb; have n0_ := Aside0.mk (Kd.N_below (Kd.N_elderB (by (with_reducible repeat (first | apply Kd.N_alloc | apply Kd.N_drewN | apply Kd.N_drew)); exact HO0.out) gb161 (Nat.le_of_eq hg.symm)) hb); have n1_ := Aside0.mk (Kept.below (S := (fun k_ => P0_ k_)) (by repeat (first | (with_reducible first | exact HK.out | apply Kept.alloc | apply Kept.drewN | apply Kept.drew) | exact HK.out)) hb); have n2_ := Aside0.mk (below_step (by repeat (first | (with_reducible first | exact HB.out | apply below_alloc | apply pw_below_drewN | apply below_drew1) | exact HB.out)) hb); have n3_ := Aside0.mk (hbox); have n4_ := Aside0.mk ((by rw [hg]; exact (by first | exact HK.out.1 | exact (show Kept w _ (fun k_ => P0_ k_) from by repeat (first | (with_reducible first | exact HK.out | apply Kept.alloc | apply Kept.drewN | apply Kept.drew) | exact HK.out)).1) : w.heap.size ≤ gb161)); have n5_ := Aside0.mk ((by rw [hg]; exact (below_size (by repeat (first | (with_reducible first | exact HB.out | apply below_alloc | apply pw_below_drewN | apply below_drew1) | exact HB.out))) : w0.heap.size ≤ gb161)); clear HO0; clear HK; clear HB; have HO0 := n0_; have HK := n1_; have HB := n2_; have BK161 := n3_; have GW161 := n4_; have GE161 := n5_; clear n0_ n1_ n2_ n3_ n4_ n5_; clear hb hbox hg; have hcz8_0 : w7.cell? ⟨gb161, 0, none⟩ = some (.int .i64 a1_0) := (blk_cell BK161.out 0).trans rfl; have hcz8_1 : w7.cell? ⟨gb161, 1, none⟩ = some (.slice A1_1 l1_1.length c1_1) := (blk_cell BK161.out 1).trans rfl; have hfz8_0 := blk_frozen BK161.out 0; have hfz8_1 := blk_frozen BK161.out 1; obtain ⟨Ao9, co9, eo9⟩ := Kd.N_slice HO0.out; subst eo9) | ((with_reducible refine gate_callee (f := 58) rfl ?_); refine goesL_ (some 9) rfl rfl Try.func58 (by kernel_rfl) rfl #[.slice Ao9 l0.length co9, .int .i64 a1_0] rfl (by (try simp only [List.map_toArray, List.map_cons, List.map_nil]); first | done | rfl | (simp only [List.length_drop, List.length_take]; rfl)) ?_; (with_reducible refine (tlv_at.calls k _ _ l0 a1_0 t162 _ ?side1 ?side2 A3.out).mono ?_); (case side1 => repeat (first | exact (Kd.N_reads' HO0.out).2.2 | (with_reducible refine Kd.C_alloc ?_ _) | (with_reducible refine Kd.C_drewN ?_ _) | (with_reducible refine Kd.C_drew ?_))); (case side2 => exact (Kd.N_reads' HO0.out).2.1); rintro e w10 ⟨rfl, hb⟩; refine ⟨_, rfl, ?_⟩; have n0_ := Aside0.mk (Kd.N_below (by (with_reducible repeat (first | apply Kd.N_alloc | apply Kd.N_drewN | apply Kd.N_drew)); exact HO0.out) hb); have n1_ := Aside0.mk (blk_below (g := gb161) (o := .cells #[.int .i64 a1_0, .slice A1_1 l1_1.length c1_1] 70 (0, 0)) (by (with_reducible repeat (first | refine blk_drewN ?_ _ | refine blk_drew ?_ | refine blk_alloc ?_ _)); exact BK161.out) hb); have n2_ := Aside0.mk (Kept.below (S := (fun k_ => P0_ k_)) (by repeat (first | (with_reducible first | exact HK.out | apply Kept.alloc | apply Kept.drewN | apply Kept.drew | refine Kept.setCell ?_ (.inr GW161.out) _) | exact HK.out)) hb); have n3_ := Aside0.mk (below_step (by repeat (first | (with_reducible first | exact HB.out | apply below_alloc | apply pw_below_drewN | apply below_drew1 | refine below_set ?_ GE161.out) | exact HB.out)) hb); clear HO0; clear BK161; clear HK; clear HB; have HO0 := n0_; have BK161 := n1_; have HK := n2_; have HB := n3_; clear n0_ n1_ n2_ n3_; (try clear hb); (try clear hb2); (try clear hk); (try clear hi)))
        have n0_ := Aside0.mk (Kd.N_drew HO0.out)
        have n1_ := Aside0.mk (blk_drew BK161.out)
        have n2_ := Aside0.mk (Kept.drew HK.out)
        have n3_ := Aside0.mk (below_drew1 HB.out)
        clear HO0
        clear BK161
        clear HK
        clear HB
        have HO0 := n0_
        have BK161 := n1_
        have HK := n2_
        have HB := n3_
        clear n0_ n1_ n2_ n3_
        refine start_ (n := 11) (S := fun w' => w'.cell? ⟨gb161, 0, none⟩ = some (.int .i64 a1_0) ∧ w'.cell? ⟨gb161, 1, none⟩ = some (.slice A1_1 l1_1.length c1_1)) (ds := []) #[false, false, false, false, false, false, false, false, false, false, false] (by kernel_rfl) rfl rfl ⟨(blk_cell BK161.out 0).trans rfl, (blk_cell BK161.out 1).trans rfl⟩ (fun hHeld => ?_); refine with_tabW tlv_join.tab3 tlv_join.bits3 (fun HT_ HW_ => ?_)
        generalize w10.drew = w11 at HO0 BK161 HK HB hHeld ⊢
        refine pure_ (i := 0) (N := some 12) (v := ?_) (a' := ?_) #[true, false, false, false, false, false, false, false, false, false, false] rfl rfl (any_of HT_.out (by kernel_rfl)) (fun _ _ _ h => h) (Or.inl ⟨by rfl, ?_⟩) ?_ ?_
        rotate_left
        · intro w'
          go_simp
          with_reducible rfl
        rotate_left
        · simp only [Act.put, List.setIfInBounds_toArray, List.set_cons_zero, List.set_cons_succ, i64_w, i32_w]
          rfl
        refine pure_ (i := 1) (N := some 13) (v := ?_) (a' := ?_) #[true, true, false, false, false, false, false, false, false, false, false] rfl rfl (any_of HT_.out (by kernel_rfl)) (fun _ _ _ h => h) (Or.inl ⟨by rfl, ?_⟩) ?_ ?_
        rotate_left
        · intro w'
          go_simp
          with_reducible rfl
        rotate_left
        · simp only [Act.put, List.setIfInBounds_toArray, List.set_cons_zero, List.set_cons_succ, i64_w, i32_w]
          rfl
        refine pure_ (i := 4) (N := some 16) (v := ?_) (a' := ?_) #[true, true, false, false, true, false, false, false, false, false, false] rfl rfl (any_of HT_.out (by kernel_rfl)) (fun _ _ _ h => h) (Or.inl ⟨by rfl, ?_⟩) ?_ ?_
        rotate_left
        · intro w'
          go_simp
          with_reducible rfl
        rotate_left
        · simp only [Act.put, List.setIfInBounds_toArray, List.set_cons_zero, List.set_cons_succ, i64_w, i32_w]
          rfl
        refine take_ (i := 2) (N := some 14) (v := ?_) (a' := ?_) #[true, true, true, false, true, false, false, false, false, false, false] rfl rfl (take_ofW HT_.out HW_.out (by kernel_rfl)) (fun _ _ _ h => h) (Or.inl ⟨by rfl, ?_⟩) hHeld ?_ ?_
        rotate_left
        · rintro w' ⟨s0, s1⟩
          go_simp
          with_reducible rfl
        rotate_left
        · simp only [Act.put, List.setIfInBounds_toArray, List.set_cons_zero, List.set_cons_succ, i64_w, i32_w]
          rfl
        refine take_ (i := 5) (N := some 17) (v := ?_) (a' := ?_) #[true, true, true, false, true, true, false, false, false, false, false] rfl rfl (take_ofW HT_.out HW_.out (by kernel_rfl)) (fun _ _ _ h => h) (Or.inl ⟨by rfl, ?_⟩) hHeld ?_ ?_
        rotate_left
        · rintro w' ⟨s0, s1⟩
          go_simp
          with_reducible rfl
        rotate_left
        · simp only [Act.put, List.setIfInBounds_toArray, List.set_cons_zero, List.set_cons_succ, i64_w, i32_w]
          rfl
        refine one_ (i := 3) (N := some 15) #[true, true, true, true, true, true, false, false, false, false, false] rfl rfl (one_of HT_.out (by kernel_rfl)) (by decide) (fun K hK => ?_)
        refine Kd.R_lit_step (Kd.int .u8) _ 5 ?hg (N := 15) ?hd (xs := ([] : List Int)) (inner := []) (ok := fun _ => True) (okp := fun _ => True) ?hr ?hp (fun _ hk => hk) trivial (Below.refl _ _) (Nat.le_refl _) (by simp) ?_; (case hd => rfl); (case hg => rfl); (case hr => first | (go_simp; done) | (go_simp; rfl) | (go_simp; (try simp only [u8_w, u32_w]); first | done | rfl)); (case hp => exact (Reps.none _ _))
        intro v164 w12 ho13 hb hg_ hnew_
        clear hg_ hnew_
        (first | rw [← Ny163.out] at ho13 | (simp only [Int.reduceToNat] at ho13; rw [← Ny163.out] at ho13))
        have n0_ := Aside0.mk (Kd.N_elder' (by (with_reducible repeat (first | apply Kd.N_alloc | apply Kd.N_drewN | apply Kd.N_drew)); exact HO0.out) (Kd.R_base ho13) hb)
        have n1_ := Aside0.mk (Kd.R_lower (Kd.R_newM (M := fun k_ => (w.heap.size ≤ k_)) ho13 (by first | exact HK.out.1 | exact (show Kept w _ (fun k_ => P0_ k_) from by repeat (first | (with_reducible first | exact HK.out | apply Kept.alloc | apply Kept.drewN | apply Kept.drew | refine Kept.setCell ?_ (.inr GW161.out) _) | exact HK.out)).1) (fun k_ h_ => h_)) (below_size (by repeat (first | (with_reducible first | exact HB.out | apply below_alloc | apply pw_below_drewN | apply below_drew1 | refine below_set ?_ GE161.out) | exact HB.out))))
        have n2_ := Aside0.mk (blk_below (g := gb161) (o := .cells #[.int .i64 a1_0, .slice A1_1 l1_1.length c1_1] 70 (0, 0)) (by (with_reducible repeat (first | refine blk_drewN ?_ _ | refine blk_drew ?_ | refine blk_alloc ?_ _)); exact BK161.out) hb)
        have n3_ := Aside0.mk (Kept.below (S := (fun k_ => P0_ k_)) (by repeat (first | (with_reducible first | exact HK.out | apply Kept.alloc | apply Kept.drewN | apply Kept.drew | refine Kept.setCell ?_ (.inr GW161.out) _) | exact HK.out)) hb)
        have n4_ := Aside0.mk (below_step (by repeat (first | (with_reducible first | exact HB.out | apply below_alloc | apply pw_below_drewN | apply below_drew1 | refine below_set ?_ GE161.out) | exact HB.out)) hb)
        clear HO0
        clear BK161
        clear HK
        clear HB
        have HO0 := n0_
        have HO165 := n1_
        have BK161 := n2_
        have HK := n3_
        have HB := n4_
        clear n0_ n1_ n2_ n3_ n4_
        clear hb ho13
        refine hK.out _ _ ⟨(blk_cell BK161.out 0).trans rfl, (blk_cell BK161.out 1).trans rfl⟩ (fun hHeld => ?_)
        clear hK K
        refine norm_ (a' := ?_) ?_ ?_
        rotate_left
        · show Act.put _ (some 15) _ = _
          simp only [Act.put, List.setIfInBounds_toArray, List.set_cons_zero, List.set_cons_succ, i64_w, i32_w]
          rfl
        refine one_ (i := 6) (N := some 18) #[true, true, true, true, true, true, true, false, false, false, false] rfl rfl (one_of HT_.out (by kernel_rfl)) (by decide) (fun K hK => ?_)
        refine Kd.R_append_rows_step (Kd.int .u8) (w0 := w0) w0.heap.size (by rfl) (.tmp 15) (.tmp 17) 25 5 (.int .u8 0) 1 rfl Try.underlying25 info5 rfl (by decide) (by omega) v164 y163 l1_1 _ _ _ (fun k_ => (w.heap.size ≤ k_)) (fun _ => False) rfl rfl ?aO ?aR (fun _ _ h => h) (fun _ h => h.elim) ?aF ?aB ?aS ?aL ?_
        (case aR => exact Kd.C_kept_now HR1_1.out (by repeat (first | (with_reducible first | exact HK.out | apply Kept.alloc | apply Kept.drewN | apply Kept.drew | refine Kept.setCell ?_ (.inr GW161.out) _) | exact HK.out)))
        (case aB => exact (by repeat (first | (with_reducible first | exact HB.out | apply below_alloc | apply pw_below_drewN | apply below_drew1 | refine below_set ?_ GE161.out) | exact HB.out)))
        (case aF => exact (fun k_ hk => (Nat.le_trans (by first | exact HK.out.1 | exact (show Kept w _ (fun k_ => P0_ k_) from by repeat (first | (with_reducible first | exact HK.out | apply Kept.alloc | apply Kept.drewN | apply Kept.drew | refine Kept.setCell ?_ (.inr GW161.out) _) | exact HK.out)).1) hk)))
        (case aO => exact (by (with_reducible repeat (first | apply Kd.R_alloc | apply Kd.R_drewN | apply Kd.R_drew)); exact Kd.R_mono HO165.out (fun _ hk => hk.1)))
        (case aS => exact (below_size (by repeat (first | (with_reducible first | exact HB.out | apply below_alloc | apply pw_below_drewN | apply below_drew1 | refine below_set ?_ GE161.out) | exact HB.out))))
        (case aL => have := LMc5.out; omega)
        intro v167 w14 ho hb hg hat
        rw [← Ny166.out] at ho
        have n0_ := Aside0.mk (Kd.N_afterv (ok := (fun k_ => (Q0_ k_ ∨ w.heap.size ≤ k_) ∧ k_ ≠ gb161)) (by (with_reducible repeat (first | apply Kd.N_alloc | apply Kd.N_drewN | apply Kd.N_drew)); exact HO0.out) hg hat)
        have n1_ := Aside0.mk (blk_grown (g := gb161) (o := .cells #[.int .i64 a1_0, .slice A1_1 l1_1.length c1_1] 70 (0, 0)) (by (with_reducible repeat (first | refine blk_drewN ?_ _ | refine blk_drew ?_ | refine blk_alloc ?_ _)); exact BK161.out) hg (Kd.R_ne HO165.out BK161.out (by decide)))
        have n2_ := Aside0.mk (hb)
        have n3_ := Aside0.mk (Kept.of_grown (S := (fun k_ => P0_ k_)) hg (by repeat (first | (with_reducible first | exact HK.out | apply Kept.alloc | apply Kept.drewN | apply Kept.drew | refine Kept.setCell ?_ (.inr GW161.out) _) | exact HK.out)) (fun k_ e_ => .inr ((HO165.out.1 k_ e_).1)))
        have n4_ := Aside0.mk (ho)
        clear HO0
        clear BK161
        clear HB
        clear HK
        clear HO165
        have HO0 := n0_
        have BK161 := n1_
        have HB := n2_
        have HK := n3_
        have HO168 := n4_
        clear n0_ n1_ n2_ n3_ n4_
        clear ho hb hg hat
        obtain ⟨Ao15, co15, eo15⟩ := Kd.R_slice HO168.out
        (first | subst eo15 | (injection eo15 with f1_ f2_ f3_; have f4_ := f1_.symm; have f5_ := f3_.symm; clear f1_ f2_ f3_; subst f4_; subst f5_))
        refine hK.out _ _ ⟨(blk_cell BK161.out 0).trans rfl, (blk_cell BK161.out 1).trans rfl⟩ (fun hHeld => ?_)
        clear hK K
        refine norm_ (a' := ?_) ?_ ?_
        rotate_left
        · show Act.put _ (some 18) _ = _
          simp only [Act.put, List.setIfInBounds_toArray, List.set_cons_zero, List.set_cons_succ, i64_w, i32_w]
          rfl
        refine pure_ (i := 7) (N := some 19) (v := ?_) (a' := ?_) #[true, true, true, true, true, true, true, true, false, false, false] rfl rfl (any_of HT_.out (by kernel_rfl)) (fun _ _ _ h => h) (Or.inl ⟨by rfl, ?_⟩) ?_ ?_
        rotate_left
        · intro w'
          go_simp
          with_reducible rfl
        rotate_left
        · simp only [Act.put, List.setIfInBounds_toArray, List.set_cons_zero, List.set_cons_succ, i64_w, i32_w]
          rfl
        refine one_ (i := 8) (N := some 20) #[true, true, true, true, true, true, true, true, true, false, false] rfl rfl (one_of HT_.out (by kernel_rfl)) (by decide) (fun K hK => ?_)
        refine value_ (w1 := ?_) (v := ?_) (by rfl) rfl ?_ ?_
        rotate_left 2
        · go_simp
          constructor
          · rfl
          · rfl
        refine hK.out _ _ ⟨(blk_cell (blk_alloc BK161.out _) 0).trans rfl, (blk_cell (blk_alloc BK161.out _) 1).trans rfl⟩ (fun hHeld => ?_)
        clear hK K
        refine norm_ (a' := ?_) ?_ ?_
        rotate_left
        · show Act.put _ (some 20) _ = _
          simp only [Act.put, List.setIfInBounds_toArray, List.set_cons_zero, List.set_cons_succ, i64_w, i32_w]
          rfl
        refine one_ (i := 9) (N := some 21) #[true, true, true, true, true, true, true, true, true, true, false] rfl rfl (one_of HT_.out (by kernel_rfl)) (by decide) (fun K hK => ?_)
        refine Kd.N_append_step k70 (w0 := w0) w0.heap.size (by rfl) (.tmp 12) (.tmp 20) 22 70 (.agg #[(.int .i64 0), (.slice none 0 0)]) 32 rfl Try.underlying22 info70 rfl (by decide) (by omega) (.slice Ao9 l0.length co9) l0 (⟨a1_0, y166⟩ : S70) [.int .i64 a1_0, .slice Ao15 y166.length co15] (fun k_ => (Q0_ k_ ∨ w.heap.size ≤ k_) ∧ k_ ≠ gb161) (fun k_ => ((fun k_ => (Q0_ k_ ∨ w.heap.size ≤ k_) ∧ k_ ≠ gb161)) k_ ∧ some k_ ≠ (.slice Ao9 l0.length co9 : Value).ownBlock) rfl rfl ?aP (fun _ hk => hk) ?aF ?aO ?aB ?aS ?aL ?_
        (case aP => exact (k70_mkF _ _ (⟨a1_0, y166⟩ : S70) (Kd.R_reads' (Kd.R_mono (ok' := (fun k_ => ((fun k_ => (Q0_ k_ ∨ w.heap.size ≤ k_) ∧ k_ ≠ gb161)) k_ ∧ some k_ ≠ (.slice Ao9 l0.length co9 : Value).ownBlock)) (Kd.R_types (Kd.R_apart' (HO168.out) (Kd.N_typed HO0.out) (by decide)) BK161.out (by decide)) (fun k_ hk => ⟨⟨(.inr (hk.1.1)), hk.2⟩, hk.1.2⟩))).2.1 (Kd.R_F (Kd.R_mono (ok' := (fun k_ => ((fun k_ => (Q0_ k_ ∨ w.heap.size ≤ k_) ∧ k_ ≠ gb161)) k_ ∧ some k_ ≠ (.slice Ao9 l0.length co9 : Value).ownBlock)) (Kd.R_types (Kd.R_apart' (HO168.out) (Kd.N_typed HO0.out) (by decide)) BK161.out (by decide)) (fun k_ hk => ⟨⟨(.inr (hk.1.1)), hk.2⟩, hk.1.2⟩)))))
        (case aB => exact (by repeat (first | (with_reducible first | exact HB.out | apply below_alloc | apply pw_below_drewN | apply below_drew1 | refine below_set ?_ GE161.out) | exact HB.out)))
        (case aF => exact (fun k_ hk => ⟨(.inr (Nat.le_trans (by first | exact HK.out.1 | exact (show Kept w _ (fun k_ => P0_ k_) from by repeat (first | (with_reducible first | exact HK.out | apply Kept.alloc | apply Kept.drewN | apply Kept.drew | refine Kept.setCell ?_ (.inr GW161.out) _) | exact HK.out)).1) hk)), Kd.freshB (g := gb161) (o := .cells #[.int .i64 a1_0, .slice A1_1 l1_1.length c1_1] 70 (0, 0)) (by (with_reducible repeat (first | refine blk_drewN ?_ _ | refine blk_drew ?_ | refine blk_alloc ?_ _)); exact BK161.out) k_ hk⟩))
        (case aO => exact (by (with_reducible repeat (first | apply Kd.N_alloc | apply Kd.N_drewN | apply Kd.N_drew)); exact Kd.N_mono HO0.out (fun _ hk => ⟨hk.1.1, hk.1.2⟩)))
        (case aS => exact (below_size (by repeat (first | (with_reducible first | exact HB.out | apply below_alloc | apply pw_below_drewN | apply below_drew1 | refine below_set ?_ GE161.out) | exact HB.out))))
        (case aL => have := LMc6.out; omega)
        intro v170 w16 ho hb hg hat
        rw [← Ny169.out] at ho
        have n0_ := Aside0.mk (blk_grown (g := gb161) (o := .cells #[.int .i64 a1_0, .slice A1_1 l1_1.length c1_1] 70 (0, 0)) (by (with_reducible repeat (first | refine blk_drewN ?_ _ | refine blk_drew ?_ | refine blk_alloc ?_ _)); exact BK161.out) hg (Kd.N_away HO0.out (fun _ hk => hk.1.2)))
        have n1_ := Aside0.mk (hb)
        have n2_ := Aside0.mk (Kept.of_grown (S := (fun k_ => P0_ k_)) hg (by repeat (first | (with_reducible first | exact HK.out | apply Kept.alloc | apply Kept.drewN | apply Kept.drew | refine Kept.setCell ?_ (.inr GW161.out) _) | exact HK.out)) (fun k_ e_ => .inl (hu0 k_ e_)))
        have n3_ := Aside0.mk ((show ∀ k_, (v170 : Value).ownBlock = some k_ → P0_ k_ ∨ w.heap.size ≤ k_ from fun k_ e_ => hat.elim (fun h_ => (.inl (hu0 _ (h_.symm.trans e_)))) (fun h_ => by obtain ⟨b_, hb_, hle_⟩ := h_; rw [hb_] at e_; injection e_ with e_; subst e_; exact .inr (Nat.le_trans (by first | exact HK.out.1 | exact (show Kept w _ (fun k_ => P0_ k_) from by repeat (first | (with_reducible first | exact HK.out | apply Kept.alloc | apply Kept.drewN | apply Kept.drew | refine Kept.setCell ?_ (.inr GW161.out) _) | exact HK.out)).1) hle_))))
        have n4_ := Aside0.mk (ho)
        clear BK161
        clear HB
        clear HK
        clear HO0
        clear HO168
        have BK161 := n0_
        have HB := n1_
        have HK := n2_
        have HT_HO171 := n3_
        have HO171 := n4_
        clear n0_ n1_ n2_ n3_ n4_
        clear ho hb hg hat
        refine hK.out _ _ ⟨(blk_cell BK161.out 0).trans rfl, (blk_cell BK161.out 1).trans rfl⟩ (fun hHeld => ?_)
        clear hK K
        refine norm_ (a' := ?_) ?_ ?_
        rotate_left
        · show Act.put _ (some 21) _ = _
          simp only [Act.put, List.setIfInBounds_toArray, List.set_cons_zero, List.set_cons_succ, i64_w, i32_w]
          rfl
        refine pure_ (i := 10) (N := some 4) (v := ?_) (a' := ?_) #[true, true, true, true, true, true, true, true, true, true, true] rfl rfl (any_of HT_.out (by kernel_rfl)) (fun _ _ _ h => h) (Or.inl ⟨by rfl, ?_⟩) ?_ ?_
        rotate_left
        · intro w'
          go_simp
          with_reducible rfl
        rotate_left
        · simp only [Act.put, List.setIfInBounds_toArray, List.set_cons_zero, List.set_cons_succ, i64_w, i32_w]
          rfl
        refine done_ (done_of HT_.out (by kernel_rfl)) ?_
        try go_wp2
        go_ret
        exact ⟨_, by first | rfl | (simp [errW_none, errW_some] <;> rfl) | (simp [*, errW_none, errW_some] <;> rfl), by (with_reducible repeat (first | apply Kd.N_alloc | apply Kd.N_drewN | apply Kd.N_drew)); exact Kd.N_mono HO171.out (fun _ hk => hk.1), (fun k_ e_ => (HT_HO171.out _ e_)), by repeat (first | (with_reducible first | exact HB.out | apply below_alloc | apply pw_below_drewN | apply below_drew1 | refine below_set ?_ GE161.out) | exact HB.out), by repeat (first | (with_reducible first | exact HK.out | apply Kept.alloc | apply Kept.drewN | apply Kept.drew | refine Kept.setCell ?_ (.inr GW161.out) _) | exact HK.out)⟩
      · rw [if_neg c6] at H
        exact absurd H (by simp)
    · rw [if_neg c5] at H
      exact absurd H (by simp)
  · rw [if_neg c4] at H
    have c4b0 : decide (t162 < 0) = false := decide_eq_false c4
    clear c4
    obtain ⟨y172, hy172⟩ : ∃ y_ : List Int, y_ = (([] : List Int)) := ⟨_, rfl⟩
    replace H : (if 0 ≤ t162 then (if t162 < (l0.length : Int) then (if y172.length + ((rd_T70 l0 t162).f1).length < 140737488355328 then ((some (y172 ++ ((rd_T70 l0 t162).f1) : List Int)).bind fun y176 => (if y176.length + l1_1.length < 140737488355328 then (some (l0.set (t162 : Int).toNat (⟨(rd_T70 l0 t162).f0, (y176 ++ l1_1)⟩ : S70))) else (none))) else (none)) else (none)) else (none)) = some r := by first | (rw [hy172]; with_reducible exact H) | (have H2_ := (Option.bind_some _ _).symm.trans H; rw [hy172]; with_reducible exact H2_) | (have H2_ := (Option.bind_some _ _).symm.trans H; with_reducible exact H2_) | with_reducible exact H | (rw [hy172]; exact H) | exact H
    have Ny172 := Aside0.mk hy172
    clear hy172
    by_cases c17 : 0 ≤ t162
    · rw [if_pos c17] at H
      have c17b0 : decide (0 ≤ t162) = true := decide_eq_true c17
      clear c17
      by_cases c18 : t162 < (l0.length : Int)
      · rw [if_pos c18] at H
        have c18b0 : decide (t162 < (l0.length : Int)) = true := decide_eq_true c18
        clear c18
        by_cases c19 : y172.length + ((rd_T70 l0 t162).f1).length < 140737488355328
        · rw [if_pos c19] at H
          have LMc19 := Aside0.mk c19
          clear c19
          obtain ⟨y176, hy176⟩ : ∃ y_ : List Int, y_ = (y172 ++ ((rd_T70 l0 t162).f1)) := ⟨_, rfl⟩
          replace H : (if y176.length + l1_1.length < 140737488355328 then (some (l0.set (t162 : Int).toNat (⟨(rd_T70 l0 t162).f0, (y176 ++ l1_1)⟩ : S70))) else (none)) = some r := by first | (rw [hy176]; with_reducible exact H) | (have H2_ := (Option.bind_some _ _).symm.trans H; rw [hy176]; with_reducible exact H2_) | (have H2_ := (Option.bind_some _ _).symm.trans H; with_reducible exact H2_) | with_reducible exact H | (rw [hy176]; exact H) | exact H
          have Ny176 := Aside0.mk hy176
          clear hy176
          by_cases c20 : y176.length + l1_1.length < 140737488355328
          · rw [if_pos c20] at H
            have LMc20 := Aside0.mk c20
            clear c20
            obtain ⟨y179, hy179⟩ : ∃ y_ : List Int, y_ = (y176 ++ l1_1) := ⟨_, rfl⟩
            replace H : (some (l0.set (t162 : Int).toNat (⟨(rd_T70 l0 t162).f0, y179⟩ : S70))) = some r := by first | (rw [hy179]; with_reducible exact H) | (have H2_ := (Option.bind_some _ _).symm.trans H; rw [hy179]; with_reducible exact H2_) | (have H2_ := (Option.bind_some _ _).symm.trans H; with_reducible exact H2_) | with_reducible exact H | (rw [hy179]; exact H) | exact H
            have Ny179 := Aside0.mk hy179
            clear hy179
            obtain ⟨y182, hy182⟩ : ∃ y_ : List (S70), y_ = (l0.set (t162 : Int).toNat (⟨(rd_T70 l0 t162).f0, y179⟩ : S70)) := ⟨_, rfl⟩
            replace H : (some y182) = some r := by first | (rw [hy182]; with_reducible exact H) | (have H2_ := (Option.bind_some _ _).symm.trans H; rw [hy182]; with_reducible exact H2_) | (have H2_ := (Option.bind_some _ _).symm.trans H; with_reducible exact H2_) | with_reducible exact H | (rw [hy182]; exact H) | exact H
            have Ny182 := Aside0.mk hy182
            clear hy182
            obtain rfl := Option.some.inj H
            go_enter Try.func60, Try.ntmps60
            try go_wp2_with (first | ((with_reducible refine gate_dst (N := 3) rfl ?_); refine box_event ?hg (N := 3) ?hd (cs := #[.int .i64 a1_0, .slice A1_1 l1_1.length c1_1]) (t := 70) ?hr ?_; (case hd => rfl); (case hg => rfl); (case hr => first | (go_simp; done) | (go_simp; rfl)); intro gb161 hg w22 hbox hb; have n0_ := Aside0.mk (Kd.N_below (Kd.N_elderB (by (with_reducible repeat (first | apply Kd.N_alloc | apply Kd.N_drewN | apply Kd.N_drew)); exact HO0.out) gb161 (Nat.le_of_eq hg.symm)) hb); have n1_ := Aside0.mk (Kept.below (S := (fun k_ => P0_ k_)) (by repeat (first | (with_reducible first | exact HK.out | apply Kept.alloc | apply Kept.drewN | apply Kept.drew) | exact HK.out)) hb); have n2_ := Aside0.mk (below_step (by repeat (first | (with_reducible first | exact HB.out | apply below_alloc | apply pw_below_drewN | apply below_drew1) | exact HB.out)) hb); have n3_ := Aside0.mk (hbox); have n4_ := Aside0.mk ((by rw [hg]; exact (by first | exact HK.out.1 | exact (show Kept w _ (fun k_ => P0_ k_) from by repeat (first | (with_reducible first | exact HK.out | apply Kept.alloc | apply Kept.drewN | apply Kept.drew) | exact HK.out)).1) : w.heap.size ≤ gb161)); have n5_ := Aside0.mk ((by rw [hg]; exact (below_size (by repeat (first | (with_reducible first | exact HB.out | apply below_alloc | apply pw_below_drewN | apply below_drew1) | exact HB.out))) : w0.heap.size ≤ gb161)); clear HO0; clear HK; clear HB; have HO0 := n0_; have HK := n1_; have HB := n2_; have BK161 := n3_; have GW161 := n4_; have GE161 := n5_; clear n0_ n1_ n2_ n3_ n4_ n5_; clear hb hbox hg; have hcz23_0 : w22.cell? ⟨gb161, 0, none⟩ = some (.int .i64 a1_0) := (blk_cell BK161.out 0).trans rfl; have hcz23_1 : w22.cell? ⟨gb161, 1, none⟩ = some (.slice A1_1 l1_1.length c1_1) := (blk_cell BK161.out 1).trans rfl; have hfz23_0 := blk_frozen BK161.out 0; have hfz23_1 := blk_frozen BK161.out 1; obtain ⟨Ao24, co24, eo24⟩ := Kd.N_slice HO0.out; subst eo24) | ((with_reducible refine gate_callee (f := 58) rfl ?_); refine goesL_ (some 9) rfl rfl Try.func58 (by kernel_rfl) rfl #[.slice Ao24 l0.length co24, .int .i64 a1_0] rfl (by (try simp only [List.map_toArray, List.map_cons, List.map_nil]); first | done | rfl | (simp only [List.length_drop, List.length_take]; rfl)) ?_; (with_reducible refine (tlv_at.calls k _ _ l0 a1_0 t162 _ ?side1 ?side2 A3.out).mono ?_); (case side1 => repeat (first | exact (Kd.N_reads' HO0.out).2.2 | (with_reducible refine Kd.C_alloc ?_ _) | (with_reducible refine Kd.C_drewN ?_ _) | (with_reducible refine Kd.C_drew ?_))); (case side2 => exact (Kd.N_reads' HO0.out).2.1); rintro e w25 ⟨rfl, hb⟩; refine ⟨_, rfl, ?_⟩; have n0_ := Aside0.mk (Kd.N_below (by (with_reducible repeat (first | apply Kd.N_alloc | apply Kd.N_drewN | apply Kd.N_drew)); exact HO0.out) hb); have n1_ := Aside0.mk (blk_below (g := gb161) (o := .cells #[.int .i64 a1_0, .slice A1_1 l1_1.length c1_1] 70 (0, 0)) (by (with_reducible repeat (first | refine blk_drewN ?_ _ | refine blk_drew ?_ | refine blk_alloc ?_ _)); exact BK161.out) hb); have n2_ := Aside0.mk (Kept.below (S := (fun k_ => P0_ k_)) (by repeat (first | (with_reducible first | exact HK.out | apply Kept.alloc | apply Kept.drewN | apply Kept.drew | refine Kept.setCell ?_ (.inr GW161.out) _) | exact HK.out)) hb); have n3_ := Aside0.mk (below_step (by repeat (first | (with_reducible first | exact HB.out | apply below_alloc | apply pw_below_drewN | apply below_drew1 | refine below_set ?_ GE161.out) | exact HB.out)) hb); clear HO0; clear BK161; clear HK; clear HB; have HO0 := n0_; have BK161 := n1_; have HK := n2_; have HB := n3_; clear n0_ n1_ n2_ n3_; (try clear hb); (try clear hb2); (try clear hk); (try clear hi)))
            have n0_ := Aside0.mk (Kd.N_drew HO0.out)
            have n1_ := Aside0.mk (blk_drew BK161.out)
            have n2_ := Aside0.mk (Kept.drew HK.out)
            have n3_ := Aside0.mk (below_drew1 HB.out)
            clear HO0
            clear BK161
            clear HK
            clear HB
            have HO0 := n0_
            have BK161 := n1_
            have HK := n2_
            have HB := n3_
            clear n0_ n1_ n2_ n3_
            have p175 : 0 ≤ (t162 : Int) := of_decide_eq_true (by first | (with_reducible assumption) | assumption)
            have q175 : t162 < (l0.length : Int) := of_decide_eq_true (by first | (with_reducible assumption) | assumption)
            obtain ⟨ad175, A175_1, c175_1, e175, hx175_0, hx175_1, hl175_1, hi175_1⟩ := at_T70 (Kd.N_reads' HO0.out).2.2 t162 p175 q175
            cases e175
            obtain ⟨ce175, hce175, hMe175, hcc175⟩ := Kd.N_get HO0.out z70 t162 p175 (by first | exact q175 | exact of_decide_eq_true (by first | (with_reducible assumption) | assumption) | (have e_ := (Kd.N_reads' HO0.out).1; omega))
            obtain ⟨ua175_1, uc175_1, rfl, ul175_1, ge175_1⟩ := k70_openF hMe175
            have hv175_1 := hcc175 1 _ rfl
            rw [add_field _ _ 1 (by omega)] at hv175_1
            replace hv175_1 := Option.some.inj (hv175_1.symm.trans hx175_1)
            injection hv175_1 with hva_ hvn_ hvc_
            rw [hva_] at ge175_1
            rw [hvc_] at ul175_1
            have HL175_1 := Aside0.mk (show Kd.V (Kd.int .u8) 5 _ w0.heap.size _ _ ((rd_T70 l0 t162).f1) from Kd.V_mk ul175_1 ge175_1)
            clear hva_ hvn_ hvc_ ge175_1 ul175_1
            clear hcc175 hce175
            have HR175_1 := Aside0.mk hi175_1
            have HC175_1 := Aside0.mk hl175_1
            clear hi175_1 hl175_1
            replace p175 := eq_true p175
            replace q175 := eq_true q175
            refine start_ (n := 15) (S := fun w' => w'.cell? ⟨gb161, 0, none⟩ = some (.int .i64 a1_0) ∧ w'.cell? ⟨gb161, 1, none⟩ = some (.slice A1_1 l1_1.length c1_1) ∧ w'.cell? (ad175.add ((t162).toNat * 2)) = some (.int .i64 ((rd_T70 l0 t162).f0)) ∧ w'.cell? ⟨(ad175.add ((t162).toNat * 2)).block, (ad175.add ((t162).toNat * 2)).off + 1, none⟩ = some (.slice A175_1 ((rd_T70 l0 t162).f1).length c175_1)) (ds := [14]) #[false, false, false, false, false, false, false, false, false, false, false, false, false, false, false] (by kernel_rfl) rfl rfl ⟨(blk_cell BK161.out 0).trans rfl, (blk_cell BK161.out 1).trans rfl, hx175_0, hx175_1⟩ (fun hHeld => ?_); refine with_tabW tlv_join.tab4 tlv_join.bits4 (fun HT_ HW_ => ?_)
            generalize w25.drew = w26 at HO0 BK161 HK HB HL175_1 HR175_1 hx175_0 hx175_1 hHeld ⊢
            refine pure_ (i := 0) (N := some 22) (v := ?_) (a' := ?_) #[true, false, false, false, false, false, false, false, false, false, false, false, false, false, false] rfl rfl (any_of HT_.out (by kernel_rfl)) (fun _ _ _ h => h) (Or.inl ⟨by rfl, ?_⟩) ?_ ?_
            rotate_left
            · intro w'
              go_simp
              with_reducible rfl
            rotate_left
            · simp only [Act.put, List.setIfInBounds_toArray, List.set_cons_zero, List.set_cons_succ, i64_w, i32_w]
              rfl
            refine pure_ (i := 1) (N := some 23) (v := ?_) (a' := ?_) #[true, true, false, false, false, false, false, false, false, false, false, false, false, false, false] rfl rfl (any_of HT_.out (by kernel_rfl)) (fun _ _ _ h => h) (Or.inl ⟨by rfl, ?_⟩) ?_ ?_
            rotate_left
            · intro w'
              go_simp
              with_reducible rfl
            rotate_left
            · simp only [Act.put, List.setIfInBounds_toArray, List.set_cons_zero, List.set_cons_succ, i64_w, i32_w]
              rfl
            refine pure_ (i := 3) (N := some 25) (v := ?_) (a' := ?_) #[true, true, false, true, false, false, false, false, false, false, false, false, false, false, false] rfl rfl (any_of HT_.out (by kernel_rfl)) (fun _ _ _ h => h) (Or.inl ⟨by rfl, ?_⟩) ?_ ?_
            rotate_left
            · intro w'
              go_simp
              with_reducible rfl
            rotate_left
            · simp only [Act.put, List.setIfInBounds_toArray, List.set_cons_zero, List.set_cons_succ, i64_w, i32_w]
              rfl
            refine pure_ (i := 4) (N := some 26) (v := ?_) (a' := ?_) #[true, true, false, true, true, false, false, false, false, false, false, false, false, false, false] rfl rfl (any_of HT_.out (by kernel_rfl)) (fun _ _ _ h => h) (Or.inl ⟨by rfl, ?_⟩) ?_ ?_
            rotate_left
            · intro w'
              go_simp
              with_reducible rfl
            rotate_left
            · simp only [Act.put, List.setIfInBounds_toArray, List.set_cons_zero, List.set_cons_succ, i64_w, i32_w]
              rfl
            refine pure_ (i := 5) (N := some 27) (v := ?_) (a' := ?_) #[true, true, false, true, true, true, false, false, false, false, false, false, false, false, false] rfl rfl (any_of HT_.out (by kernel_rfl)) (fun _ _ _ h => h) (Or.inl ⟨by rfl, ?_⟩) ?_ ?_
            rotate_left
            · intro w'
              go_simp
              with_reducible rfl
            rotate_left
            · simp only [Act.put, List.setIfInBounds_toArray, List.set_cons_zero, List.set_cons_succ, i64_w, i32_w]
              rfl
            refine pure_ (i := 6) (N := some 28) (v := ?_) (a' := ?_) #[true, true, false, true, true, true, true, false, false, false, false, false, false, false, false] rfl rfl (any_of HT_.out (by kernel_rfl)) (fun _ _ _ h => h) (Or.inl ⟨by rfl, ?_⟩) ?_ ?_
            rotate_left
            · intro w'
              go_simp
              with_reducible rfl
            rotate_left
            · simp only [Act.put, List.setIfInBounds_toArray, List.set_cons_zero, List.set_cons_succ, i64_w, i32_w]
              rfl
            refine pure_ (i := 9) (N := some 31) (v := ?_) (a' := ?_) #[true, true, false, true, true, true, true, false, false, true, false, false, false, false, false] rfl rfl (any_of HT_.out (by kernel_rfl)) (fun _ _ _ h => h) (Or.inl ⟨by rfl, ?_⟩) ?_ ?_
            rotate_left
            · intro w'
              go_simp
              with_reducible rfl
            rotate_left
            · simp only [Act.put, List.setIfInBounds_toArray, List.set_cons_zero, List.set_cons_succ, i64_w, i32_w]
              rfl
            refine take_ (i := 7) (N := some 29) (v := ?_) (a' := ?_) #[true, true, false, true, true, true, true, true, false, true, false, false, false, false, false] rfl rfl (take_ofW HT_.out HW_.out (by kernel_rfl)) (fun _ _ _ h => h) (Or.inl ⟨by rfl, ?_⟩) hHeld ?_ ?_
            rotate_left
            · rintro w' ⟨s0, s1, s2, s3⟩
              go_simp
              with_reducible rfl
            rotate_left
            · simp only [Act.put, List.setIfInBounds_toArray, List.set_cons_zero, List.set_cons_succ, i64_w, i32_w]
              rfl
            refine take_ (i := 10) (N := some 32) (v := ?_) (a' := ?_) #[true, true, false, true, true, true, true, true, false, true, true, false, false, false, false] rfl rfl (take_ofW HT_.out HW_.out (by kernel_rfl)) (fun _ _ _ h => h) (Or.inl ⟨by rfl, ?_⟩) hHeld ?_ ?_
            rotate_left
            · rintro w' ⟨s0, s1, s2, s3⟩
              go_simp
              with_reducible rfl
            rotate_left
            · simp only [Act.put, List.setIfInBounds_toArray, List.set_cons_zero, List.set_cons_succ, i64_w, i32_w]
              rfl
            refine one_ (i := 2) (N := some 24) #[true, true, true, true, true, true, true, true, false, true, true, false, false, false, false] rfl rfl (one_of HT_.out (by kernel_rfl)) (by decide) (fun K hK => ?_)
            refine Kd.R_lit_step (Kd.int .u8) _ 5 ?hg (N := 24) ?hd (xs := ([] : List Int)) (inner := []) (ok := fun _ => True) (okp := fun _ => True) ?hr ?hp (fun _ hk => hk) trivial (Below.refl _ _) (Nat.le_refl _) (by simp) ?_; (case hd => rfl); (case hg => rfl); (case hr => first | (go_simp; done) | (go_simp; rfl) | (go_simp; (try simp only [u8_w, u32_w]); first | done | rfl)); (case hp => exact (Reps.none _ _))
            intro v173 w27 ho28 hb hg_ hnew_
            have HS2_ := (hb.cell (World.block_lt_of_cell? _ _ (hHeld.2.2.1))).trans (hHeld.2.2.1)
            have HS3_ := (hb.cell (World.block_lt_of_cell? _ _ (hHeld.2.2.2))).trans (hHeld.2.2.2)
            clear hg_ hnew_
            (first | rw [← Ny172.out] at ho28 | (simp only [Int.reduceToNat] at ho28; rw [← Ny172.out] at ho28))
            have n0_ := Aside0.mk (Kd.N_elder' (by (with_reducible repeat (first | apply Kd.N_alloc | apply Kd.N_drewN | apply Kd.N_drew)); exact HO0.out) (Kd.R_base ho28) hb)
            have n1_ := Aside0.mk (Kd.V_elder' (by (with_reducible repeat (first | apply Kd.V_alloc | apply Kd.V_drewN | apply Kd.V_drew)); exact HL175_1.out) (Kd.R_base ho28) hb)
            have n2_ := Aside0.mk (Kd.R_lower (Kd.R_newM (M := fun k_ => (w.heap.size ≤ k_)) ho28 (by first | exact HK.out.1 | exact (show Kept w _ (fun k_ => P0_ k_) from by repeat (first | (with_reducible first | exact HK.out | apply Kept.alloc | apply Kept.drewN | apply Kept.drew | refine Kept.setCell ?_ (.inr GW161.out) _) | exact HK.out)).1) (fun k_ h_ => h_)) (below_size (by repeat (first | (with_reducible first | exact HB.out | apply below_alloc | apply pw_below_drewN | apply below_drew1 | refine below_set ?_ GE161.out) | exact HB.out))))
            have n3_ := Aside0.mk (blk_below (g := gb161) (o := .cells #[.int .i64 a1_0, .slice A1_1 l1_1.length c1_1] 70 (0, 0)) (by (with_reducible repeat (first | refine blk_drewN ?_ _ | refine blk_drew ?_ | refine blk_alloc ?_ _)); exact BK161.out) hb)
            have n4_ := Aside0.mk (Kd.C_below (by repeat (first | (with_reducible exact HR175_1.out) | (with_reducible refine Kd.C_alloc ?_ _) | (with_reducible refine Kd.C_drewN ?_ _) | (with_reducible refine Kd.C_drew ?_) | exact HR175_1.out)) hb)
            have n5_ := Aside0.mk (Kept.below (S := (fun k_ => P0_ k_)) (by repeat (first | (with_reducible first | exact HK.out | apply Kept.alloc | apply Kept.drewN | apply Kept.drew | refine Kept.setCell ?_ (.inr GW161.out) _) | exact HK.out)) hb)
            have n6_ := Aside0.mk (below_step (by repeat (first | (with_reducible first | exact HB.out | apply below_alloc | apply pw_below_drewN | apply below_drew1 | refine below_set ?_ GE161.out) | exact HB.out)) hb)
            clear HO0
            clear HL175_1
            clear BK161
            clear HR175_1
            clear HK
            clear HB
            have HO0 := n0_
            have HL175_1 := n1_
            have HO174 := n2_
            have BK161 := n3_
            have HR175_1 := n4_
            have HK := n5_
            have HB := n6_
            clear n0_ n1_ n2_ n3_ n4_ n5_ n6_
            clear hb ho28
            refine hK.out _ _ ⟨(blk_cell BK161.out 0).trans rfl, (blk_cell BK161.out 1).trans rfl, HS2_, HS3_⟩ (fun hHeld => ?_)
            clear hK K
            refine norm_ (a' := ?_) ?_ ?_
            rotate_left
            · show Act.put _ (some 24) _ = _
              simp only [Act.put, List.setIfInBounds_toArray, List.set_cons_zero, List.set_cons_succ, i64_w, i32_w]
              rfl
            refine one_ (i := 8) (N := some 30) #[true, true, true, true, true, true, true, true, true, true, true, false, false, false, false] rfl rfl (one_of HT_.out (by kernel_rfl)) (by decide) (fun K hK => ?_)
            refine Kd.R_append_rows_step (Kd.int .u8) (w0 := w0) w0.heap.size (by rfl) (.tmp 24) (.tmp 29) 25 5 (.int .u8 0) 1 rfl Try.underlying25 info5 rfl (by decide) (by omega) v173 y172 ((rd_T70 l0 t162).f1) _ _ _ (fun k_ => (w.heap.size ≤ k_)) (fun _ => False) rfl rfl ?aO ?aR (fun _ _ h => h) (fun _ h => h.elim) ?aF ?aB ?aS ?aL ?_
            (case aR => repeat (first | exact (by repeat (first | (with_reducible exact HR175_1.out) | (with_reducible refine Kd.C_alloc ?_ _) | (with_reducible refine Kd.C_drewN ?_ _) | (with_reducible refine Kd.C_drew ?_) | exact HR175_1.out)) | (with_reducible refine Kd.C_alloc ?_ _) | (with_reducible refine Kd.C_drewN ?_ _) | (with_reducible refine Kd.C_drew ?_)))
            (case aB => exact (by repeat (first | (with_reducible first | exact HB.out | apply below_alloc | apply pw_below_drewN | apply below_drew1 | refine below_set ?_ GE161.out) | exact HB.out)))
            (case aF => exact (fun k_ hk => (Nat.le_trans (by first | exact HK.out.1 | exact (show Kept w _ (fun k_ => P0_ k_) from by repeat (first | (with_reducible first | exact HK.out | apply Kept.alloc | apply Kept.drewN | apply Kept.drew | refine Kept.setCell ?_ (.inr GW161.out) _) | exact HK.out)).1) hk)))
            (case aO => exact (by (with_reducible repeat (first | apply Kd.R_alloc | apply Kd.R_drewN | apply Kd.R_drew)); exact Kd.R_mono HO174.out (fun _ hk => hk.1)))
            (case aS => exact (below_size (by repeat (first | (with_reducible first | exact HB.out | apply below_alloc | apply pw_below_drewN | apply below_drew1 | refine below_set ?_ GE161.out) | exact HB.out))))
            (case aL => have := LMc19.out; omega)
            intro v177 w29 ho hb hg hat
            have HS2_ := cell_grown hg (hHeld.2.2.1) (by first | (rw [add_block]; exact (by obtain ⟨_, hc_⟩ := Kd.N_typed HO0.out _ rfl; exact Kd.R_ne HO174.out hc_ (by decide))) | (show some (Addr.add _ _).block ≠ _; rw [add_block]; exact (by obtain ⟨_, hc_⟩ := Kd.N_typed HO0.out _ rfl; exact Kd.R_ne HO174.out hc_ (by decide))) | exact (by obtain ⟨_, hc_⟩ := Kd.N_typed HO0.out _ rfl; exact Kd.R_ne HO174.out hc_ (by decide)))
            have HS3_ := cell_grown hg (hHeld.2.2.2) (by first | (rw [add_block]; exact (by obtain ⟨_, hc_⟩ := Kd.N_typed HO0.out _ rfl; exact Kd.R_ne HO174.out hc_ (by decide))) | (show some (Addr.add _ _).block ≠ _; rw [add_block]; exact (by obtain ⟨_, hc_⟩ := Kd.N_typed HO0.out _ rfl; exact Kd.R_ne HO174.out hc_ (by decide))) | exact (by obtain ⟨_, hc_⟩ := Kd.N_typed HO0.out _ rfl; exact Kd.R_ne HO174.out hc_ (by decide)))
            rw [← Ny176.out] at ho
            have n0_ := Aside0.mk (Kd.N_afterv (ok := (fun k_ => (Q0_ k_ ∨ w.heap.size ≤ k_) ∧ k_ ≠ gb161)) (by (with_reducible repeat (first | apply Kd.N_alloc | apply Kd.N_drewN | apply Kd.N_drew)); exact HO0.out) hg hat)
            have n1_ := Aside0.mk (blk_grown (g := gb161) (o := .cells #[.int .i64 a1_0, .slice A1_1 l1_1.length c1_1] 70 (0, 0)) (by (with_reducible repeat (first | refine blk_drewN ?_ _ | refine blk_drew ?_ | refine blk_alloc ?_ _)); exact BK161.out) hg (Kd.R_ne HO174.out BK161.out (by decide)))
            have n2_ := Aside0.mk (Kd.V_afterv (ok := (fun k_ => (Q0_ k_ ∨ w.heap.size ≤ k_) ∧ some k_ ≠ (.slice (some ad175) l0.length co24 : Value).ownBlock ∧ k_ ≠ gb161)) (by (with_reducible repeat (first | apply Kd.V_alloc | apply Kd.V_drewN | apply Kd.V_drew)); exact Kd.V_mono HL175_1.out (fun _ hk => ⟨⟨hk.1.1.1, ⟨hk.1.2, hk.1.1.2⟩⟩, hk.2⟩)) hg hat)
            have n3_ := Aside0.mk (hb)
            have n4_ := Aside0.mk (Kept.of_grown (S := (fun k_ => P0_ k_)) hg (by repeat (first | (with_reducible first | exact HK.out | apply Kept.alloc | apply Kept.drewN | apply Kept.drew | refine Kept.setCell ?_ (.inr GW161.out) _) | exact HK.out)) (fun k_ e_ => .inr ((HO174.out.1 k_ e_).1)))
            have n5_ := Aside0.mk (ho)
            clear HO0
            clear BK161
            clear HL175_1
            clear HB
            clear HK
            clear HO174
            have HO0 := n0_
            have BK161 := n1_
            have HL175_1 := n2_
            have HB := n3_
            have HK := n4_
            have HO178 := n5_
            clear n0_ n1_ n2_ n3_ n4_ n5_
            clear ho hb hg hat
            refine hK.out _ _ ⟨(blk_cell BK161.out 0).trans rfl, (blk_cell BK161.out 1).trans rfl, HS2_, HS3_⟩ (fun hHeld => ?_)
            clear hK K
            refine norm_ (a' := ?_) ?_ ?_
            rotate_left
            · show Act.put _ (some 30) _ = _
              simp only [Act.put, List.setIfInBounds_toArray, List.set_cons_zero, List.set_cons_succ, i64_w, i32_w]
              rfl
            refine one_ (i := 11) (N := some 33) #[true, true, true, true, true, true, true, true, true, true, true, true, false, false, false] rfl rfl (one_of HT_.out (by kernel_rfl)) (by decide) (fun K hK => ?_)
            refine Kd.R_append_rows_step (Kd.int .u8) (w0 := w0) w0.heap.size (by rfl) (.tmp 30) (.tmp 32) 25 5 (.int .u8 0) 1 rfl Try.underlying25 info5 rfl (by decide) (by omega) v177 y176 l1_1 _ _ _ (fun k_ => (w.heap.size ≤ k_)) (fun _ => False) rfl rfl ?aO ?aR (fun _ _ h => h) (fun _ h => h.elim) ?aF ?aB ?aS ?aL ?_
            (case aR => exact Kd.C_kept_now HR1_1.out (by repeat (first | (with_reducible first | exact HK.out | apply Kept.alloc | apply Kept.drewN | apply Kept.drew | refine Kept.setCell ?_ (.inr GW161.out) _) | exact HK.out)))
            (case aB => exact (by repeat (first | (with_reducible first | exact HB.out | apply below_alloc | apply pw_below_drewN | apply below_drew1 | refine below_set ?_ GE161.out) | exact HB.out)))
            (case aF => exact (fun k_ hk => (Nat.le_trans (by first | exact HK.out.1 | exact (show Kept w _ (fun k_ => P0_ k_) from by repeat (first | (with_reducible first | exact HK.out | apply Kept.alloc | apply Kept.drewN | apply Kept.drew | refine Kept.setCell ?_ (.inr GW161.out) _) | exact HK.out)).1) hk)))
            (case aO => exact (by (with_reducible repeat (first | apply Kd.R_alloc | apply Kd.R_drewN | apply Kd.R_drew)); exact HO178.out))
            (case aS => exact (below_size (by repeat (first | (with_reducible first | exact HB.out | apply below_alloc | apply pw_below_drewN | apply below_drew1 | refine below_set ?_ GE161.out) | exact HB.out))))
            (case aL => have := LMc20.out; omega)
            intro v180 w30 ho hb hg hat
            have HS2_ := cell_grown hg (hHeld.2.2.1) (by first | (rw [add_block]; exact (by obtain ⟨_, hc_⟩ := Kd.N_typed HO0.out _ rfl; exact Kd.R_ne HO178.out hc_ (by decide))) | (show some (Addr.add _ _).block ≠ _; rw [add_block]; exact (by obtain ⟨_, hc_⟩ := Kd.N_typed HO0.out _ rfl; exact Kd.R_ne HO178.out hc_ (by decide))) | exact (by obtain ⟨_, hc_⟩ := Kd.N_typed HO0.out _ rfl; exact Kd.R_ne HO178.out hc_ (by decide)))
            have HS3_ := cell_grown hg (hHeld.2.2.2) (by first | (rw [add_block]; exact (by obtain ⟨_, hc_⟩ := Kd.N_typed HO0.out _ rfl; exact Kd.R_ne HO178.out hc_ (by decide))) | (show some (Addr.add _ _).block ≠ _; rw [add_block]; exact (by obtain ⟨_, hc_⟩ := Kd.N_typed HO0.out _ rfl; exact Kd.R_ne HO178.out hc_ (by decide))) | exact (by obtain ⟨_, hc_⟩ := Kd.N_typed HO0.out _ rfl; exact Kd.R_ne HO178.out hc_ (by decide)))
            rw [← Ny179.out] at ho
            have n0_ := Aside0.mk (Kd.N_afterv (ok := (fun k_ => (Q0_ k_ ∨ w.heap.size ≤ k_) ∧ k_ ≠ gb161)) (by (with_reducible repeat (first | apply Kd.N_alloc | apply Kd.N_drewN | apply Kd.N_drew)); exact HO0.out) hg hat)
            have n1_ := Aside0.mk (blk_grown (g := gb161) (o := .cells #[.int .i64 a1_0, .slice A1_1 l1_1.length c1_1] 70 (0, 0)) (by (with_reducible repeat (first | refine blk_drewN ?_ _ | refine blk_drew ?_ | refine blk_alloc ?_ _)); exact BK161.out) hg (Kd.R_ne HO178.out BK161.out (by decide)))
            have n2_ := Aside0.mk (Kd.V_afterv (ok := (fun k_ => (Q0_ k_ ∨ w.heap.size ≤ k_) ∧ some k_ ≠ (.slice (some ad175) l0.length co24 : Value).ownBlock ∧ k_ ≠ gb161)) (by (with_reducible repeat (first | apply Kd.V_alloc | apply Kd.V_drewN | apply Kd.V_drew)); exact HL175_1.out) hg hat)
            have n3_ := Aside0.mk (hb)
            have n4_ := Aside0.mk (Kept.of_grown (S := (fun k_ => P0_ k_)) hg (by repeat (first | (with_reducible first | exact HK.out | apply Kept.alloc | apply Kept.drewN | apply Kept.drew | refine Kept.setCell ?_ (.inr GW161.out) _) | exact HK.out)) (fun k_ e_ => .inr ((HO178.out.1 k_ e_))))
            have n5_ := Aside0.mk (ho)
            clear HO0
            clear BK161
            clear HL175_1
            clear HB
            clear HK
            clear HO178
            have HO0 := n0_
            have BK161 := n1_
            have HL175_1 := n2_
            have HB := n3_
            have HK := n4_
            have HO181 := n5_
            clear n0_ n1_ n2_ n3_ n4_ n5_
            clear ho hb hg hat
            have p21 : 0 ≤ (t162 : Int) := of_decide_eq_true (by first | (with_reducible assumption) | assumption)
            have q21 : (t162 : Int) < ((l0.length : Int) : Int) := of_decide_eq_true (by first | (with_reducible assumption) | assumption)
            obtain ⟨go21, co21, eo21, gb21, gl21, cl21, HG21⟩ := Kd.N_form HO0.out (by omega)
            (first | cases eo21 | (injection eo21 with ea_ en_ ec_; (first | subst ea_ | (injection ea_ with ea_; subst ea_)); subst ec_; clear en_))
            have GB21 := Aside0.mk gb21
            have GG21 := Aside0.mk HG21
            clear gb21 gl21 HG21
            have HMgo21 := Aside0.mk (show (P0_ go21 ∨ w.heap.size ≤ go21) from .inl (hu0 _ rfl))
            (first | simp only [add_plain] at hx175_0 | skip)
            (first | simp only [add_plain] at hx175_1 | skip)
            obtain ⟨ce21, hcl21, hM21, hcc21, hfr21⟩ := Kd.N_elem HO0.out z70 (t162 : Int) p21 q21
            obtain ⟨ua21_1, uc21_1, rfl, ul21_1, ge21_1⟩ := k70_openF hM21
            have hx21_0 : World.cell? _ ⟨go21, (t162 : Int).toNat * 2, none⟩ = some (.int .i64 ((rd_T70 l0 t162).f0)) := hcc21 0 _ rfl
            have hx21_1 : World.cell? _ ⟨go21, (t162 : Int).toNat * 2 + 1, none⟩ = some (.slice ua21_1 ((rd_T70 l0 t162).f1).length uc21_1) := hcc21 1 _ rfl
            have hf21_0 : World.frozen? _ ⟨go21, (t162 : Int).toNat * 2, none⟩ = false := hfr21 0
            have hf21_1 : World.frozen? _ ⟨go21, (t162 : Int).toNat * 2 + 1, none⟩ = false := hfr21 1
            clear hcl21 hcc21 hfr21 hM21
            replace p21 := eq_true p21
            replace q21 := eq_true q21
            obtain ⟨Ao32, co32, eo32⟩ := Kd.R_slice HO181.out
            (first | subst eo32 | (injection eo32 with f1_ f2_ f3_; have f4_ := f1_.symm; have f5_ := f3_.symm; clear f1_ f2_ f3_; subst f4_; subst f5_))
            have HX31 := Aside0.mk (show Kd.N k70 70 _ w0.heap.size (fun k_ => (Q0_ k_ ∨ w.heap.size ≤ k_) ∧ some k_ ≠ (.slice Ao32 y179.length co32 : Value).ownBlock ∧ k_ ≠ gb161) (.slice (some ⟨go21, 0, none⟩) l0.length co24) l0 from (Kd.N_mono (HO0.out) (fun k_ hk => ⟨hk.1.1, ⟨hk.2, hk.1.2⟩⟩)))
            replace HX31 := Aside0.mk (show Kd.N k70 70 _ w0.heap.size (fun k_ => (Q0_ k_ ∨ w.heap.size ≤ k_) ∧ k_ ≠ gb161) (.slice (some ⟨go21, 0, none⟩) l0.length co24) l0 from Kd.N_mono HX31.out (fun k_ hk => ⟨hk.1, hk.2.2⟩))
            obtain ⟨ce31, hcl31, hM31, hcc31, hfr31⟩ := Kd.N_elem HX31.out z70 (t162 : Int) (of_decide_eq_true (by first | (with_reducible assumption) | assumption)) (by have h_ : (t162 : Int) < ((l0.length : Int) : Int) := of_decide_eq_true (by first | (with_reducible assumption) | assumption); first | exact h_ | (have e_ := (Kd.N_reads' HO0.out).1; omega) | simpa using h_)
            obtain ⟨ua31_1, uc31_1, rfl, ul31_1, ge31_1⟩ := k70_openF hM31
            have HP31 := (Kd.N_seg HX31.out (t162 : Int) (of_decide_eq_true (by first | (with_reducible assumption) | assumption)) (by have h_ : (t162 : Int) < ((l0.length : Int) : Int) := of_decide_eq_true (by first | (with_reducible assumption) | assumption); first | exact h_ | (have e_ := (Kd.N_reads' HO0.out).1; omega) | simpa using h_) (seg := [.slice Ao32 y179.length co32]) (j := 1) hcl31 hcc31 (show 2 ≤ 2 from by decide) (x' := (⟨(rd_T70 l0 t162).f0, y179⟩ : S70)) (k70_mkF _ _ (⟨(rd_T70 l0 t162).f0, y179⟩ : S70) (Kd.R_reads' (Kd.R_mono (ok' := (fun k_ => ((fun k_ => (Q0_ k_ ∨ w.heap.size ≤ k_) ∧ k_ ≠ gb161)) k_ ∧ k_ ≠ go21)) (Kd.R_types (Kd.R_apart' (HO181.out) (Kd.N_typed HO0.out) (by decide)) BK161.out (by decide)) (fun k_ hk => ⟨⟨(.inr (hk.1.1)), hk.2⟩, fun e_ => (hk.1.2) (by rw [e_]; rfl)⟩))).2.1 (Kd.R_F (Kd.R_mono (ok' := (fun k_ => ((fun k_ => (Q0_ k_ ∨ w.heap.size ≤ k_) ∧ k_ ≠ gb161)) k_ ∧ k_ ≠ go21)) (Kd.R_types (Kd.R_apart' (HO181.out) (Kd.N_typed HO0.out) (by decide)) BK161.out (by decide)) (fun k_ hk => ⟨⟨(.inr (hk.1.1)), hk.2⟩, fun e_ => (hk.1.2) (by rw [e_]; rfl)⟩)))) (fun _ hk => hk)).1
            rw [← Ny182.out] at HP31
            have HQ31 := Aside0.mk HP31
            clear hcl31 hcc31 hfr31 hM31 HP31
            refine hK.out _ _ ⟨(blk_cell BK161.out 0).trans rfl, (blk_cell BK161.out 1).trans rfl, HS2_, HS3_⟩ (fun hHeld => ?_)
            clear hK K
            refine norm_ (a' := ?_) ?_ ?_
            rotate_left
            · show Act.put _ (some 33) _ = _
              simp only [Act.put, List.setIfInBounds_toArray, List.set_cons_zero, List.set_cons_succ, i64_w, i32_w]
              rfl
            refine pure_ (i := 12) (N := some 34) (v := ?_) (a' := ?_) #[true, true, true, true, true, true, true, true, true, true, true, true, true, false, false] rfl rfl (any_of HT_.out (by kernel_rfl)) (fun _ _ _ h => h) (Or.inl ⟨by rfl, ?_⟩) ?_ ?_
            rotate_left
            · intro w'
              go_simp
              with_reducible rfl
            rotate_left
            · simp only [Act.put, List.setIfInBounds_toArray, List.set_cons_zero, List.set_cons_succ, i64_w, i32_w]
              rfl
            refine pure_ (i := 13) (N := some 35) (v := ?_) (a' := ?_) #[true, true, true, true, true, true, true, true, true, true, true, true, true, true, false] rfl rfl (any_of HT_.out (by kernel_rfl)) (fun _ _ _ h => h) (Or.inl ⟨by rfl, ?_⟩) ?_ ?_
            rotate_left
            · intro w'
              go_simp
              with_reducible rfl
            rotate_left
            · simp only [Act.put, List.setIfInBounds_toArray, List.set_cons_zero, List.set_cons_succ, i64_w, i32_w]
              rfl
            refine last_ (i := 14) (N := none) #[true, true, true, true, true, true, true, true, true, true, true, true, true, true, true] rfl rfl (one_of HT_.out (by kernel_rfl)) (by decide) (fun K hK => ?_)
            refine skip_ (w1 := ?_) (by rfl) rfl ?_ ?_
            rotate_left
            · go_simp
              rfl
            refine hK.out _ _ ?_
            clear hK K
            refine done_ (done_of HT_.out (by kernel_rfl)) ?_
            try go_wp2
            go_ret
            exact ⟨_, by first | rfl | (simp [errW_none, errW_some] <;> rfl) | (simp [*, errW_none, errW_some] <;> rfl), by (with_reducible repeat (first | apply Kd.N_alloc | apply Kd.N_drewN | apply Kd.N_drew)); exact Kd.N_mono HQ31.out (fun _ hk => hk.1), (fun k_ e_ => (.inl (hu0 _ e_))), by repeat (first | (with_reducible first | exact HB.out | apply below_alloc | apply pw_below_drewN | apply below_drew1 | refine below_set ?_ GB21.out | refine below_set ?_ GE161.out) | exact HB.out), by repeat (first | (with_reducible first | exact HK.out | apply Kept.alloc | apply Kept.drewN | apply Kept.drew | refine Kept.setCell ?_ HMgo21.out _ | refine Kept.setCell ?_ (.inr GW161.out) _) | exact HK.out)⟩
          · rw [if_neg c20] at H
            exact absurd H (by simp)
        · rw [if_neg c19] at H
          exact absurd H (by simp)
      · rw [if_neg c18] at H
        exact absurd H (by simp)
    · rw [if_neg c17] at H
      exact absurd H (by simp)

end Go.Proofs.Ytiklcnlehlpdaaa.PTlj
