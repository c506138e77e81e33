-- printed by a program of this session, made after the kit's own printer
import Derived.Test.YtiklcnlehlpdaaaPTljx0
import Derived.Test.YtiklcnlehlpdaaaPTljx1
import Derived.Test.YtiklcnlehlpdaaaPTljx2
import Derived.Test.YtiklcnlehlpdaaaPTljx3
import Derived.Test.YtiklcnlehlpdaaaPTljx4
namespace Go.Proofs.Ytiklcnlehlpdaaa.PTlj
open Go.RowKit Go.Proofs.YtiklcnlehlpdaaaW.PrintWords Go.Proofs.YtiklcnlehlpdaaaW.PrintLast Go.Proofs.YtiklcnlehlpdaaaW.PrintMore
attribute [local go_sem] max2_int min2_int max_two min_two max_three min_three max_four min_four   -- for this text's walks alone
set_option linter.unusedVariables false
set_option linter.unusedSimpArgs false

/-! ### boarderlaw03_knows: function 20 -/
def boarderlaw03_knows.f (k : Nat)  : Option (Bool) := (tlv_Write.f k (([(⟨53, (([1] : List Int))⟩ : S70), (⟨12, ([] : List Int)⟩ : S70)] : List (S70)))).bind fun bt214 => ((tlv_Read.f k (([0, 53, 1, 1, 12, 0, 255, 7] : List Int))).bind fun bt222 => ((tlv_Find.f k bt222.1 53).bind fun bt226 => (if 300 ≤ 281474976710656 then ((tlv_Write.f k (([(⟨9, (List.replicate 300 0)⟩ : S70)] : List (S70)))).bind fun bt236 => (if (strOfNums bt214.1).toList = ([53, 1, 1, 12, 0, 255] : List UInt8) then (if bt214.2 = 0 then (if (bt222.1.length : Int) = 2 then (if 1 < (bt222.1.length : Int) then (if ((rd_T70 bt222.1 1).f0) = 12 then (if bt222.2 = 0 then (if (strOfNums bt226.1).toList = ([1] : List UInt8) then (if bt226.2 = true then (if (bt236.1.length : Int) = 305 then (if bt236.2 = 0 then ((tlv_Right.f k bt222.1).bind fun t241 => (some t241)) else (some false)) else (some false)) else (some false)) else (some false)) else (some false)) else (some false)) else (none)) else (some false)) else (some false)) else (some false))) else (none))))
theorem boarderlaw03_knows.mono : ∀ k, LeO (boarderlaw03_knows.f k ) (boarderlaw03_knows.f (k + 1) ) := by
  intro  k
  unfold boarderlaw03_knows.f
  repeat' first
      | (with_reducible exact tlv_Find.mono _ _ _)
      | (with_reducible exact tlv_Read.mono _ _)
      | (with_reducible exact tlv_Right.mono _ _)
      | (with_reducible exact tlv_Write.mono _ _)
      | (with_reducible exact LeO.refl _)
      | (with_reducible exact LeO.none _)
      | (with_reducible refine LeO.ite ?_ ?_)
      | (with_reducible refine LeO.bind ?_ (fun _ => ?_))
      | exact tlv_Find.mono _ _ _
      | exact tlv_Read.mono _ _
      | exact tlv_Right.mono _ _
      | exact tlv_Write.mono _ _
      | exact LeO.none _
      | refine LeO.ite ?_ ?_
      | refine LeO.bind ?_ (fun _ => ?_)
set_option maxHeartbeats 8000000 in
set_option maxRecDepth 100000 in
theorem boarderlaw03_knows.calls (k : Nat)  (r : Bool) (w : World) (h : boarderlaw03_knows.f k  = some r) :
    Calls Try.prog 20 #[] w fun e w' => e = .returned (.bool r) ∧ Below w.heap.size w w' := by
  have hu70 := Try.underlying70
  have HB := Aside0.mk (Below.refl w.heap.size w)
  have H : ((tlv_Write.f k (([(⟨53, (([1] : List Int))⟩ : S70), (⟨12, ([] : List Int)⟩ : S70)] : List (S70)))).bind fun bt214 => ((tlv_Read.f k (([0, 53, 1, 1, 12, 0, 255, 7] : List Int))).bind fun bt222 => ((tlv_Find.f k bt222.1 53).bind fun bt226 => (if 300 ≤ 281474976710656 then ((tlv_Write.f k (([(⟨9, (List.replicate 300 0)⟩ : S70)] : List (S70)))).bind fun bt236 => (if (strOfNums bt214.1).toList = ([53, 1, 1, 12, 0, 255] : List UInt8) then (if bt214.2 = 0 then (if (bt222.1.length : Int) = 2 then (if 1 < (bt222.1.length : Int) then (if ((rd_T70 bt222.1 1).f0) = 12 then (if bt222.2 = 0 then (if (strOfNums bt226.1).toList = ([1] : List UInt8) then (if bt226.2 = true then (if (bt236.1.length : Int) = 305 then (if bt236.2 = 0 then ((tlv_Right.f k bt222.1).bind fun t241 => (some t241)) else (some false)) else (some false)) else (some false)) else (some false)) else (some false)) else (some false)) else (none)) else (some false)) else (some false)) else (some false))) else (none))))) = some r := h
  clear h
  obtain ⟨y208, hy208⟩ : ∃ y_ : List Int, y_ = (([1] : List Int)) := ⟨_, rfl⟩
  replace H : ((tlv_Write.f k (([(⟨53, y208⟩ : S70), (⟨12, ([] : List Int)⟩ : S70)] : List (S70)))).bind fun bt214 => ((tlv_Read.f k (([0, 53, 1, 1, 12, 0, 255, 7] : List Int))).bind fun bt222 => ((tlv_Find.f k bt222.1 53).bind fun bt226 => (if 300 ≤ 281474976710656 then ((tlv_Write.f k (([(⟨9, (List.replicate 300 0)⟩ : S70)] : List (S70)))).bind fun bt236 => (if (strOfNums bt214.1).toList = ([53, 1, 1, 12, 0, 255] : List UInt8) then (if bt214.2 = 0 then (if (bt222.1.length : Int) = 2 then (if 1 < (bt222.1.length : Int) then (if ((rd_T70 bt222.1 1).f0) = 12 then (if bt222.2 = 0 then (if (strOfNums bt226.1).toList = ([1] : List UInt8) then (if bt226.2 = true then (if (bt236.1.length : Int) = 305 then (if bt236.2 = 0 then ((tlv_Right.f k bt222.1).bind fun t241 => (some t241)) else (some false)) else (some false)) else (some false)) else (some false)) else (some false)) else (some false)) else (none)) else (some false)) else (some false)) else (some false))) else (none))))) = some r := by first | (rw [hy208]; with_reducible exact H) | (have H2_ := (Option.bind_some _ _).symm.trans H; rw [hy208]; with_reducible exact H2_) | (have H2_ := (Option.bind_some _ _).symm.trans H; with_reducible exact H2_) | with_reducible exact H | (rw [hy208]; exact H) | exact H
  have Ny208 := Aside0.mk hy208
  clear hy208
  obtain ⟨y211, hy211⟩ : ∃ y_ : List (S70), y_ = (([(⟨53, y208⟩ : S70), (⟨12, ([] : List Int)⟩ : S70)] : List (S70))) := ⟨_, rfl⟩
  replace H : ((tlv_Write.f k y211).bind fun bt214 => ((tlv_Read.f k (([0, 53, 1, 1, 12, 0, 255, 7] : List Int))).bind fun bt222 => ((tlv_Find.f k bt222.1 53).bind fun bt226 => (if 300 ≤ 281474976710656 then ((tlv_Write.f k (([(⟨9, (List.replicate 300 0)⟩ : S70)] : List (S70)))).bind fun bt236 => (if (strOfNums bt214.1).toList = ([53, 1, 1, 12, 0, 255] : List UInt8) then (if bt214.2 = 0 then (if (bt222.1.length : Int) = 2 then (if 1 < (bt222.1.length : Int) then (if ((rd_T70 bt222.1 1).f0) = 12 then (if bt222.2 = 0 then (if (strOfNums bt226.1).toList = ([1] : List UInt8) then (if bt226.2 = true then (if (bt236.1.length : Int) = 305 then (if bt236.2 = 0 then ((tlv_Right.f k bt222.1).bind fun t241 => (some t241)) else (some false)) else (some false)) else (some false)) else (some false)) else (some false)) else (some false)) else (none)) else (some false)) else (some false)) else (some false))) else (none))))) = some r := by first | (rw [hy211]; with_reducible exact H) | (have H2_ := (Option.bind_some _ _).symm.trans H; rw [hy211]; with_reducible exact H2_) | (have H2_ := (Option.bind_some _ _).symm.trans H; with_reducible exact H2_) | with_reducible exact H | (rw [hy211]; exact H) | exact H
  have Ny211 := Aside0.mk hy211
  clear hy211
  replace H := Option.bind_eq_some_iff.mp H
  obtain ⟨⟨t214, t217⟩, A10, H⟩ := H
  replace H : ((tlv_Read.f k (([0, 53, 1, 1, 12, 0, 255, 7] : List Int))).bind fun bt222 => ((tlv_Find.f k bt222.1 53).bind fun bt226 => (if 300 ≤ 281474976710656 then ((tlv_Write.f k (([(⟨9, (List.replicate 300 0)⟩ : S70)] : List (S70)))).bind fun bt236 => (if (strOfNums t214).toList = ([53, 1, 1, 12, 0, 255] : List UInt8) then (if t217 = 0 then (if (bt222.1.length : Int) = 2 then (if 1 < (bt222.1.length : Int) then (if ((rd_T70 bt222.1 1).f0) = 12 then (if bt222.2 = 0 then (if (strOfNums bt226.1).toList = ([1] : List UInt8) then (if bt226.2 = true then (if (bt236.1.length : Int) = 305 then (if bt236.2 = 0 then ((tlv_Right.f k bt222.1).bind fun t241 => (some t241)) else (some false)) else (some false)) else (some false)) else (some false)) else (some false)) else (some false)) else (none)) else (some false)) else (some false)) else (some false))) else (none)))) = some r := H
  have A1 := Aside0.mk A10
  clear A10
  obtain ⟨y219, hy219⟩ : ∃ y_ : List Int, y_ = (([0, 53, 1, 1, 12, 0, 255, 7] : List Int)) := ⟨_, rfl⟩
  replace H : ((tlv_Read.f k y219).bind fun bt222 => ((tlv_Find.f k bt222.1 53).bind fun bt226 => (if 300 ≤ 281474976710656 then ((tlv_Write.f k (([(⟨9, (List.replicate 300 0)⟩ : S70)] : List (S70)))).bind fun bt236 => (if (strOfNums t214).toList = ([53, 1, 1, 12, 0, 255] : List UInt8) then (if t217 = 0 then (if (bt222.1.length : Int) = 2 then (if 1 < (bt222.1.length : Int) then (if ((rd_T70 bt222.1 1).f0) = 12 then (if bt222.2 = 0 then (if (strOfNums bt226.1).toList = ([1] : List UInt8) then (if bt226.2 = true then (if (bt236.1.length : Int) = 305 then (if bt236.2 = 0 then ((tlv_Right.f k bt222.1).bind fun t241 => (some t241)) else (some false)) else (some false)) else (some false)) else (some false)) else (some false)) else (some false)) else (none)) else (some false)) else (some false)) else (some false))) else (none)))) = some r := by first | (rw [hy219]; with_reducible exact H) | (have H2_ := (Option.bind_some _ _).symm.trans H; rw [hy219]; with_reducible exact H2_) | (have H2_ := (Option.bind_some _ _).symm.trans H; with_reducible exact H2_) | with_reducible exact H | (rw [hy219]; exact H) | exact H
  have Ny219 := Aside0.mk hy219
  clear hy219
  replace H := Option.bind_eq_some_iff.mp H
  obtain ⟨⟨t222, t225⟩, A20, H⟩ := H
  replace H : ((tlv_Find.f k t222 53).bind fun bt226 => (if 300 ≤ 281474976710656 then ((tlv_Write.f k (([(⟨9, (List.replicate 300 0)⟩ : S70)] : List (S70)))).bind fun bt236 => (if (strOfNums t214).toList = ([53, 1, 1, 12, 0, 255] : List UInt8) then (if t217 = 0 then (if (t222.length : Int) = 2 then (if 1 < (t222.length : Int) then (if ((rd_T70 t222 1).f0) = 12 then (if t225 = 0 then (if (strOfNums bt226.1).toList = ([1] : List UInt8) then (if bt226.2 = true then (if (bt236.1.length : Int) = 305 then (if bt236.2 = 0 then ((tlv_Right.f k t222).bind fun t241 => (some t241)) else (some false)) else (some false)) else (some false)) else (some false)) else (some false)) else (some false)) else (none)) else (some false)) else (some false)) else (some false))) else (none))) = some r := H
  have A2 := Aside0.mk A20
  clear A20
  replace H := Option.bind_eq_some_iff.mp H
  obtain ⟨⟨t226, t227⟩, A30, H⟩ := H
  replace H : (if 300 ≤ 281474976710656 then ((tlv_Write.f k (([(⟨9, (List.replicate 300 0)⟩ : S70)] : List (S70)))).bind fun bt236 => (if (strOfNums t214).toList = ([53, 1, 1, 12, 0, 255] : List UInt8) then (if t217 = 0 then (if (t222.length : Int) = 2 then (if 1 < (t222.length : Int) then (if ((rd_T70 t222 1).f0) = 12 then (if t225 = 0 then (if (strOfNums t226).toList = ([1] : List UInt8) then (if t227 = true then (if (bt236.1.length : Int) = 305 then (if bt236.2 = 0 then ((tlv_Right.f k t222).bind fun t241 => (some t241)) else (some false)) else (some false)) else (some false)) else (some false)) else (some false)) else (some false)) else (none)) else (some false)) else (some false)) else (some false))) else (none)) = some r := H
  have A3 := Aside0.mk A30
  clear A30
  by_cases c4 : 300 ≤ 281474976710656
  · rw [if_pos c4] at H
    have c4b0 := eq_true c4
    have c4b1 : decide (300 ≤ 281474976710656) = true := decide_eq_true c4
    clear c4
    obtain ⟨y230, hy230⟩ : ∃ y_ : List Int, y_ = (List.replicate 300 0) := ⟨_, rfl⟩
    replace H : ((tlv_Write.f k (([(⟨9, y230⟩ : S70)] : List (S70)))).bind fun bt236 => (if (strOfNums t214).toList = ([53, 1, 1, 12, 0, 255] : List UInt8) then (if t217 = 0 then (if (t222.length : Int) = 2 then (if 1 < (t222.length : Int) then (if ((rd_T70 t222 1).f0) = 12 then (if t225 = 0 then (if (strOfNums t226).toList = ([1] : List UInt8) then (if t227 = true then (if (bt236.1.length : Int) = 305 then (if bt236.2 = 0 then ((tlv_Right.f k t222).bind fun t241 => (some t241)) else (some false)) else (some false)) else (some false)) else (some false)) else (some false)) else (some false)) else (none)) else (some false)) else (some false)) else (some false))) = some r := by first | (rw [hy230]; with_reducible exact H) | (have H2_ := (Option.bind_some _ _).symm.trans H; rw [hy230]; with_reducible exact H2_) | (have H2_ := (Option.bind_some _ _).symm.trans H; with_reducible exact H2_) | with_reducible exact H | (rw [hy230]; exact H) | exact H
    have Ny230 := Aside0.mk hy230
    clear hy230
    obtain ⟨y233, hy233⟩ : ∃ y_ : List (S70), y_ = (([(⟨9, y230⟩ : S70)] : List (S70))) := ⟨_, rfl⟩
    replace H : ((tlv_Write.f k y233).bind fun bt236 => (if (strOfNums t214).toList = ([53, 1, 1, 12, 0, 255] : List UInt8) then (if t217 = 0 then (if (t222.length : Int) = 2 then (if 1 < (t222.length : Int) then (if ((rd_T70 t222 1).f0) = 12 then (if t225 = 0 then (if (strOfNums t226).toList = ([1] : List UInt8) then (if t227 = true then (if (bt236.1.length : Int) = 305 then (if bt236.2 = 0 then ((tlv_Right.f k t222).bind fun t241 => (some t241)) else (some false)) else (some false)) else (some false)) else (some false)) else (some false)) else (some false)) else (none)) else (some false)) else (some false)) else (some false))) = some r := by first | (rw [hy233]; with_reducible exact H) | (have H2_ := (Option.bind_some _ _).symm.trans H; rw [hy233]; with_reducible exact H2_) | (have H2_ := (Option.bind_some _ _).symm.trans H; with_reducible exact H2_) | with_reducible exact H | (rw [hy233]; exact H) | exact H
    have Ny233 := Aside0.mk hy233
    clear hy233
    replace H := Option.bind_eq_some_iff.mp H
    obtain ⟨⟨t236, t239⟩, A50, H⟩ := H
    replace H : (if (strOfNums t214).toList = ([53, 1, 1, 12, 0, 255] : List UInt8) then (if t217 = 0 then (if (t222.length : Int) = 2 then (if 1 < (t222.length : Int) then (if ((rd_T70 t222 1).f0) = 12 then (if t225 = 0 then (if (strOfNums t226).toList = ([1] : List UInt8) then (if t227 = true then (if (t236.length : Int) = 305 then (if t239 = 0 then ((tlv_Right.f k t222).bind fun t241 => (some t241)) else (some false)) else (some false)) else (some false)) else (some false)) else (some false)) else (some false)) else (none)) else (some false)) else (some false)) else (some false)) = some r := H
    have A5 := Aside0.mk A50
    clear A50
    have HS6 := Aside0.mk H
    clear H
    go_enter Try.func20, Try.ntmps20
    go_wp2_with (first | ((with_reducible refine gate_dst (N := 10) rfl ?_); (try (refine gate_guard (by rfl) ?_; dsimp only)); refine Kd.R_lit (Kd.int .u8) _ 5 ?hg (N := 10) ?hd (xs := ([1] : List Int)) (inner := [.int .u8 1]) (ok := fun _ => True) (okp := fun _ => True) ?hr ?hp (fun _ hk => hk) trivial (Below.refl _ _) (Nat.le_refl _) (by simp) ?_; (case hd => rfl); (case hg => rfl); (case hr => first | (go_simp; done) | (go_simp; rfl) | (go_simp; (try simp only [u8_w, u32_w]); first | done | rfl)); (case hp => exact (Reps.one (show Kd.M (Kd.int .u8) _ _ _ 1 [.int .u8 1] from rfl) (Reps.none _ _))); intro v209 w7 ho8 hb hg_ hnew_; clear hg_ hnew_; (first | rw [← Ny208.out] at ho8 | (simp only [Int.reduceToNat] at ho8; rw [← Ny208.out] at ho8)); have n0_ := Aside0.mk (Kd.R_lower ho8 (below_size (by repeat (first | (with_reducible first | exact HB.out | apply below_alloc | apply pw_below_drewN | apply below_drew1) | exact HB.out)))); have n1_ := Aside0.mk (below_step (by repeat (first | (with_reducible first | exact HB.out | apply below_alloc | apply pw_below_drewN | apply below_drew1) | exact HB.out)) hb); clear HB; have HO210 := n0_; have HB := n1_; clear n0_ n1_; clear hb ho8; obtain ⟨Ao9, co9, eo9⟩ := Kd.R_slice HO210.out; subst eo9) | ((with_reducible refine gate_dst (N := 13) rfl ?_); (try (refine gate_guard (by rfl) ?_; dsimp only)); refine Kd.N_lit k70 _ 70 ?hg (N' := 13) ?hd (xs := ([(⟨53, y208⟩ : S70), (⟨12, ([] : List Int)⟩ : S70)] : List (S70))) (inner := [.int .i64 53, .slice Ao9 y208.length co9, .int .i64 12, .slice none 0 0]) (ok := (fun _ => True)) (okp := (fun _ => True)) ?hr ?hp (fun _ hk => hk) ((show ∀ k_, w7.heap.size ≤ k_ → (fun _ => True) k_ from fun k_ hk => trivial) _ (Nat.le_refl _)) (Below.refl _ _) (Nat.le_refl _) (by simp) ?_; (case hd => rfl); (case hg => rfl); (case hr => first | (go_simp; done) | (go_simp; rfl) | (go_simp; (try simp only [u8_w, u32_w]); first | done | rfl)); (case hp => exact (Reps.c2 (show Kd.FK k70 _ _ (⟨53, y208⟩ : S70) [.int .i64 53, .slice Ao9 y208.length co9] from (k70_mkF _ _ (⟨53, y208⟩ : S70) (Kd.R_reads' (Kd.R_mono (ok' := (fun _ => True)) (HO210.out) (fun k_ hk => trivial))).2.1 (Kd.R_F (Kd.R_mono (ok' := (fun _ => True)) (HO210.out) (fun k_ hk => trivial))))) (Reps.c2 (show Kd.FK k70 _ _ (⟨12, ([] : List Int)⟩ : S70) [.int .i64 12, .slice none 0 0] from (k70_mkF _ _ (⟨12, ([] : List Int)⟩ : S70) (Nat.le_refl _) (Kd.F_nil _ _ _))) (Reps.none _ _)))); intro v212 w10 ho11 hb hg_ hnew_; clear hg_ hnew_; (first | rw [← Ny211.out] at ho11 | (simp only [Int.reduceToNat] at ho11; rw [← Ny211.out] at ho11)); have n0_ := Aside0.mk (Kd.N_lower ho11 (below_size (by repeat (first | (with_reducible first | exact HB.out | apply below_alloc | apply pw_below_drewN | apply below_drew1) | exact HB.out)))); have n1_ := Aside0.mk (below_step (by repeat (first | (with_reducible first | exact HB.out | apply below_alloc | apply pw_below_drewN | apply below_drew1) | exact HB.out)) hb); clear HB; clear HO210; have HO213 := n0_; have HB := n1_; clear n0_ n1_; clear hb ho11; obtain ⟨Ao12, co12, eo12⟩ := Kd.N_slice HO213.out; subst eo12) | ((with_reducible refine gate_callee (f := 25) rfl ?_); refine goesL_ (some 14) rfl rfl Try.func25 (by kernel_rfl) rfl #[.slice Ao12 y211.length co12] rfl (by (try simp only [List.map_toArray, List.map_cons, List.map_nil]); first | done | rfl | (simp only [List.length_drop, List.length_take]; rfl)) ?_; (with_reducible refine (tlv_Write.calls k (fun k_ => True) _ _ y211 t214 t217 _ ?side1 A1.out).mono ?_); (case side1 => exact Kd.N_V (HO213.out)); rintro e w13 ⟨v215, rfl, ho0, hb⟩; refine ⟨_, rfl, ?_⟩; have n0_ := Aside0.mk (Kd.N_elder' (by (with_reducible repeat (first | apply Kd.N_alloc | apply Kd.N_drewN | apply Kd.N_drew)); exact HO213.out) (Kd.R_base ho0) hb); have n1_ := Aside0.mk (Kd.R_lower (Kd.R_mono (ok' := fun k_ => True) ho0 (fun _ hk_ => trivial)) (below_size (by repeat (first | (with_reducible first | exact HB.out | apply below_alloc | apply pw_below_drewN | apply below_drew1) | exact HB.out)))); have n2_ := Aside0.mk (below_step (by repeat (first | (with_reducible first | exact HB.out | apply below_alloc | apply pw_below_drewN | apply below_drew1) | exact HB.out)) hb); clear HO213; clear HB; have HO213 := n0_; have HO216 := n1_; have HB := n2_; clear n0_ n1_ n2_; (try clear hb); (try clear hb2); (try clear hk); (try clear hi); (try clear ho0); (try clear A1)) | ((with_reducible refine gate_dst (N := 18) rfl ?_); (try (refine gate_guard (by rfl) ?_; dsimp only)); refine lit_markV (N := 18) (N2 := 19) (t := 25) Try.underlying25 Try.underlying5 ?hg ?hd ?hd2 ?hw2 (xs := ([0, 53, 1, 1, 12, 0, 255, 7] : List Int)) (inner := [.int .u8 0, .int .u8 53, .int .u8 1, .int .u8 1, .int .u8 12, .int .u8 0, .int .u8 255, .int .u8 7]) ?hx (by simp) ?hr ?hr2 ?_; (case hd => rfl); (case hd2 => rfl); (case hg => rfl); (case hw2 => intro v_; rfl); (case hx => rfl); (case hr => first | (go_simp; done) | (go_simp; rfl)); (case hr2 => intro v_; rfl); intro v218 w14 hm218 hb; rw [← Ny219.out] at hm218; have hmc218 := True.intro; have n0_ := Aside0.mk (Kd.N_below (by (with_reducible repeat (first | apply Kd.N_alloc | apply Kd.N_drewN | apply Kd.N_drew)); exact HO213.out) hb); have n1_ := Aside0.mk (Kd.R_below (by (with_reducible repeat (first | apply Kd.R_alloc | apply Kd.R_drewN | apply Kd.R_drew)); exact HO216.out) hb); have n2_ := Aside0.mk (Kd.V_lower (Kd.V_mono (ok' := fun k_ => some k_ ≠ (.slice Ao12 y211.length co12 : Value).ownBlock ∧ some k_ ≠ (v215 : Value).ownBlock) hm218 (fun k_ hk_ => ⟨(Kd.fresh' (Kd.N_lt (by (with_reducible repeat (first | apply Kd.N_alloc | apply Kd.N_drewN | apply Kd.N_drew)); exact HO213.out)) k_ hk_), (Kd.fresh' (Kd.R_lt (by (with_reducible repeat (first | apply Kd.R_alloc | apply Kd.R_drewN | apply Kd.R_drew)); exact HO216.out)) k_ hk_)⟩)) (below_size (by repeat (first | (with_reducible first | exact HB.out | apply below_alloc | apply pw_below_drewN | apply below_drew1) | exact HB.out)))); have n3_ := Aside0.mk (below_step (by repeat (first | (with_reducible first | exact HB.out | apply below_alloc | apply pw_below_drewN | apply below_drew1) | exact HB.out)) hb); clear HO213; clear HO216; clear HB; have HO213 := n0_; have HO216 := n1_; have HO218 := n2_; have HB := n3_; clear n0_ n1_ n2_ n3_; clear hb hm218 hmc218; obtain ⟨Ao15, co15, eo15⟩ := Kd.V_slice HO218.out; subst eo15) | ((with_reducible refine gate_callee (f := 27) rfl ?_); refine goesL_ (some 20) rfl rfl Try.func27 (by kernel_rfl) rfl #[.slice Ao15 y219.length co15] rfl (by (try simp only [List.map_toArray, List.map_cons, List.map_nil]); first | done | rfl | (simp only [List.length_drop, List.length_take]; rfl)) ?_; (with_reducible refine (tlv_Read.calls k (fun k_ => (some k_ ≠ (.slice Ao12 y211.length co12 : Value).ownBlock ∧ some k_ ≠ (v215 : Value).ownBlock)) _ _ y219 t222 t225 _ ?side1 A2.out).mono ?_); (case side1 => exact HO218.out); rintro e w16 ⟨v223, rfl, ho0, hb⟩; refine ⟨_, rfl, ?_⟩; have n0_ := Aside0.mk (Kd.N_elder' (by (with_reducible repeat (first | apply Kd.N_alloc | apply Kd.N_drewN | apply Kd.N_drew)); exact HO213.out) (Kd.N_base ho0) hb); have n1_ := Aside0.mk (Kd.R_below (by (with_reducible repeat (first | apply Kd.R_alloc | apply Kd.R_drewN | apply Kd.R_drew)); exact HO216.out) hb); have n2_ := Aside0.mk (Kd.V_elder' (by (with_reducible repeat (first | apply Kd.V_alloc | apply Kd.V_drewN | apply Kd.V_drew)); exact HO218.out) (Kd.N_base ho0) hb); have n3_ := Aside0.mk (Kd.N_lower (Kd.N_mono (ok' := fun k_ => some k_ ≠ (.slice Ao12 y211.length co12 : Value).ownBlock ∧ some k_ ≠ (v215 : Value).ownBlock) ho0 (fun k_ hk_ => ⟨Or.elim hk_ (fun hs_ => hs_.1) (fun hn_ => (Kd.fresh' (Kd.N_lt (by (with_reducible repeat (first | apply Kd.N_alloc | apply Kd.N_drewN | apply Kd.N_drew)); exact HO213.out)) k_ hn_)), Or.elim hk_ (fun hs_ => hs_.2) (fun hn_ => (Kd.fresh' (Kd.R_lt (by (with_reducible repeat (first | apply Kd.R_alloc | apply Kd.R_drewN | apply Kd.R_drew)); exact HO216.out)) k_ hn_))⟩)) (below_size (by repeat (first | (with_reducible first | exact HB.out | apply below_alloc | apply pw_below_drewN | apply below_drew1) | exact HB.out)))); have n4_ := Aside0.mk (below_step (by repeat (first | (with_reducible first | exact HB.out | apply below_alloc | apply pw_below_drewN | apply below_drew1) | exact HB.out)) hb); clear HO213; clear HO216; clear HO218; clear HB; have HO213 := n0_; have HO216 := n1_; have HO218 := n2_; have HO224 := n3_; have HB := n4_; clear n0_ n1_ n2_ n3_ n4_; (try clear hb); (try clear hb2); (try clear hk); (try clear hi); (try clear ho0); (try clear A2); obtain ⟨Ao17, co17, eo17⟩ := Kd.N_slice HO224.out; subst eo17) | ((with_reducible refine gate_callee (f := 21) rfl ?_); refine goesL_ (some 25) rfl rfl Try.func21 (by kernel_rfl) rfl #[.slice Ao17 t222.length co17, .int .i64 53] rfl (by (try simp only [List.map_toArray, List.map_cons, List.map_nil]); first | done | rfl | (simp only [List.length_drop, List.length_take]; rfl)) ?_; (with_reducible refine (tlv_Find.calls k _ _ t222 53 t226 t227 _ ?side1 ?side2 A3.out).mono ?_); (case side1 => repeat (first | exact (Kd.N_reads' HO224.out).2.2 | (with_reducible refine Kd.C_alloc ?_ _) | (with_reducible refine Kd.C_drewN ?_ _) | (with_reducible refine Kd.C_drew ?_))); (case side2 => exact (Kd.N_reads' HO224.out).2.1); rintro e w18 ⟨v228, rfl, ho0, hb⟩; refine ⟨_, rfl, ?_⟩; have n0_ := Aside0.mk (Kd.N_elder' (by (with_reducible repeat (first | apply Kd.N_alloc | apply Kd.N_drewN | apply Kd.N_drew)); exact HO213.out) (Kd.R_base ho0) hb); have n1_ := Aside0.mk (Kd.R_elder' (by (with_reducible repeat (first | apply Kd.R_alloc | apply Kd.R_drewN | apply Kd.R_drew)); exact HO216.out) (Kd.R_base ho0) hb); have n2_ := Aside0.mk (Kd.V_elder' (by (with_reducible repeat (first | apply Kd.V_alloc | apply Kd.V_drewN | apply Kd.V_drew)); exact HO218.out) (Kd.R_base ho0) hb); have n3_ := Aside0.mk (Kd.N_elder' (by (with_reducible repeat (first | apply Kd.N_alloc | apply Kd.N_drewN | apply Kd.N_drew)); exact HO224.out) (Kd.R_base ho0) hb); have n4_ := Aside0.mk (Kd.R_lower (Kd.R_new' ho0 (Kd.R_lt (by (with_reducible repeat (first | apply Kd.R_alloc | apply Kd.R_drewN | apply Kd.R_drew)); exact HO216.out))) (below_size (by repeat (first | (with_reducible first | exact HB.out | apply below_alloc | apply pw_below_drewN | apply below_drew1) | exact HB.out)))); have n5_ := Aside0.mk (below_step (by repeat (first | (with_reducible first | exact HB.out | apply below_alloc | apply pw_below_drewN | apply below_drew1) | exact HB.out)) hb); clear HO213; clear HO216; clear HO218; clear HO224; clear HB; have HO213 := n0_; have HO216 := n1_; have HO218 := n2_; have HO224 := n3_; have HO229 := n4_; have HB := n5_; clear n0_ n1_ n2_ n3_ n4_ n5_; (try clear hb); (try clear hb2); (try clear hk); (try clear hi); (try clear ho0); (try clear A3)) | ((with_reducible refine gate_dst (N := 29) rfl ?_); (try (refine gate_guard (by rfl) ?_; dsimp only)); refine Kd.R_make (Kd.int .u8) _ 5 rfl (N := 29) rfl 25 _ _ rfl 300 rfl rfl Try.underlying25 (.int .u8 0) 1 info5 rfl (by decide) (by omega) 0 (ok := fun _ => True) (okp := fun _ => True) rfl (fun _ hk => hk) trivial (by omega) (by omega) (Below.refl _ _) (Nat.le_refl _) ?_; intro v231 w19 ho20 hb hg_ hnew_; clear hg_ hnew_; (first | rw [← Ny230.out] at ho20 | (simp only [Int.reduceToNat] at ho20; rw [← Ny230.out] at ho20)); have n0_ := Aside0.mk (Kd.N_elder' (by (with_reducible repeat (first | apply Kd.N_alloc | apply Kd.N_drewN | apply Kd.N_drew)); exact HO213.out) (Kd.R_base ho20) hb); have n1_ := Aside0.mk (Kd.R_elder' (by (with_reducible repeat (first | apply Kd.R_alloc | apply Kd.R_drewN | apply Kd.R_drew)); exact HO216.out) (Kd.R_base ho20) hb); have n2_ := Aside0.mk (Kd.V_elder' (by (with_reducible repeat (first | apply Kd.V_alloc | apply Kd.V_drewN | apply Kd.V_drew)); exact HO218.out) (Kd.R_base ho20) hb); have n3_ := Aside0.mk (Kd.N_elder' (by (with_reducible repeat (first | apply Kd.N_alloc | apply Kd.N_drewN | apply Kd.N_drew)); exact HO224.out) (Kd.R_base ho20) hb); have n4_ := Aside0.mk (Kd.R_elder' (by (with_reducible repeat (first | apply Kd.R_alloc | apply Kd.R_drewN | apply Kd.R_drew)); exact HO229.out) (Kd.R_base ho20) hb); have n5_ := Aside0.mk (Kd.R_lower (Kd.R_new' (Kd.R_new' ho20 (Kd.R_lt (by (with_reducible repeat (first | apply Kd.R_alloc | apply Kd.R_drewN | apply Kd.R_drew)); exact HO216.out))) (Kd.R_lt (by (with_reducible repeat (first | apply Kd.R_alloc | apply Kd.R_drewN | apply Kd.R_drew)); exact HO229.out))) (below_size (by repeat (first | (with_reducible first | exact HB.out | apply below_alloc | apply pw_below_drewN | apply below_drew1) | exact HB.out)))); have n6_ := Aside0.mk (below_step (by repeat (first | (with_reducible first | exact HB.out | apply below_alloc | apply pw_below_drewN | apply below_drew1) | exact HB.out)) hb); clear HO213; clear HO216; clear HO218; clear HO224; clear HO229; clear HB; have HO213 := n0_; have HO216 := n1_; have HO218 := n2_; have HO224 := n3_; have HO229 := n4_; have HO232 := n5_; have HB := n6_; clear n0_ n1_ n2_ n3_ n4_ n5_ n6_; clear hb ho20; obtain ⟨Ao21, co21, eo21⟩ := Kd.R_slice HO232.out; subst eo21) | ((with_reducible refine gate_dst (N := 31) rfl ?_); (try (refine gate_guard (by rfl) ?_; dsimp only)); refine Kd.N_lit k70 _ 70 ?hg (N' := 31) ?hd (xs := ([(⟨9, y230⟩ : S70)] : List (S70))) (inner := [.int .i64 9, .slice Ao21 y230.length co21]) (ok := (fun k_ => some k_ ≠ (.slice Ao12 y211.length co12 : Value).ownBlock ∧ some k_ ≠ (v215 : Value).ownBlock ∧ some k_ ≠ (.slice Ao17 t222.length co17 : Value).ownBlock ∧ some k_ ≠ (v228 : Value).ownBlock)) (okp := (fun k_ => some k_ ≠ (.slice Ao12 y211.length co12 : Value).ownBlock ∧ some k_ ≠ (v215 : Value).ownBlock ∧ some k_ ≠ (.slice Ao17 t222.length co17 : Value).ownBlock ∧ some k_ ≠ (v228 : Value).ownBlock)) ?hr ?hp (fun _ hk => hk) ((show ∀ k_, w19.heap.size ≤ k_ → (fun k_ => some k_ ≠ (.slice Ao12 y211.length co12 : Value).ownBlock ∧ some k_ ≠ (v215 : Value).ownBlock ∧ some k_ ≠ (.slice Ao17 t222.length co17 : Value).ownBlock ∧ some k_ ≠ (v228 : Value).ownBlock) k_ from fun k_ hk => ⟨Kd.fresh' (Kd.N_lt (by (with_reducible repeat (first | apply Kd.N_alloc | apply Kd.N_drewN | apply Kd.N_drew)); exact HO213.out)) k_ hk, Kd.fresh' (Kd.R_lt (by (with_reducible repeat (first | apply Kd.R_alloc | apply Kd.R_drewN | apply Kd.R_drew)); exact HO216.out)) k_ hk, Kd.fresh' (Kd.N_lt (by (with_reducible repeat (first | apply Kd.N_alloc | apply Kd.N_drewN | apply Kd.N_drew)); exact HO224.out)) k_ hk, Kd.fresh' (Kd.R_lt (by (with_reducible repeat (first | apply Kd.R_alloc | apply Kd.R_drewN | apply Kd.R_drew)); exact HO229.out)) k_ hk⟩) _ (Nat.le_refl _)) (Below.refl _ _) (Nat.le_refl _) (by simp) ?_; (case hd => rfl); (case hg => rfl); (case hr => first | (go_simp; done) | (go_simp; rfl) | (go_simp; (try simp only [u8_w, u32_w]); first | done | rfl)); (case hp => exact (Reps.c2 (show Kd.FK k70 _ _ (⟨9, y230⟩ : S70) [.int .i64 9, .slice Ao21 y230.length co21] from (k70_mkF _ _ (⟨9, y230⟩ : S70) (Kd.R_reads' (Kd.R_mono (ok' := (fun k_ => some k_ ≠ (.slice Ao12 y211.length co12 : Value).ownBlock ∧ some k_ ≠ (v215 : Value).ownBlock ∧ some k_ ≠ (.slice Ao17 t222.length co17 : Value).ownBlock ∧ some k_ ≠ (v228 : Value).ownBlock)) (Kd.R_apart' (Kd.R_apart' (HO232.out) (Kd.N_typed HO213.out) (by decide)) (Kd.N_typed HO224.out) (by decide)) (fun k_ hk => ⟨hk.1.2, ⟨hk.1.1.1.2, ⟨hk.2, hk.1.1.2⟩⟩⟩))).2.1 (Kd.R_F (Kd.R_mono (ok' := (fun k_ => some k_ ≠ (.slice Ao12 y211.length co12 : Value).ownBlock ∧ some k_ ≠ (v215 : Value).ownBlock ∧ some k_ ≠ (.slice Ao17 t222.length co17 : Value).ownBlock ∧ some k_ ≠ (v228 : Value).ownBlock)) (Kd.R_apart' (Kd.R_apart' (HO232.out) (Kd.N_typed HO213.out) (by decide)) (Kd.N_typed HO224.out) (by decide)) (fun k_ hk => ⟨hk.1.2, ⟨hk.1.1.1.2, ⟨hk.2, hk.1.1.2⟩⟩⟩))))) (Reps.none _ _))); intro v234 w22 ho23 hb hg_ hnew_; clear hg_ hnew_; (first | rw [← Ny233.out] at ho23 | (simp only [Int.reduceToNat] at ho23; rw [← Ny233.out] at ho23)); have n0_ := Aside0.mk (Kd.N_elder' (by (with_reducible repeat (first | apply Kd.N_alloc | apply Kd.N_drewN | apply Kd.N_drew)); exact HO213.out) (Kd.N_base ho23) hb); have n1_ := Aside0.mk (Kd.R_below (by (with_reducible repeat (first | apply Kd.R_alloc | apply Kd.R_drewN | apply Kd.R_drew)); exact HO216.out) hb); have n2_ := Aside0.mk (Kd.V_elder' (by (with_reducible repeat (first | apply Kd.V_alloc | apply Kd.V_drewN | apply Kd.V_drew)); exact HO218.out) (Kd.N_base ho23) hb); have n3_ := Aside0.mk (Kd.N_elder' (by (with_reducible repeat (first | apply Kd.N_alloc | apply Kd.N_drewN | apply Kd.N_drew)); exact HO224.out) (Kd.N_base ho23) hb); have n4_ := Aside0.mk (Kd.R_below (by (with_reducible repeat (first | apply Kd.R_alloc | apply Kd.R_drewN | apply Kd.R_drew)); exact HO229.out) hb); have n5_ := Aside0.mk (Kd.N_lower ho23 (below_size (by repeat (first | (with_reducible first | exact HB.out | apply below_alloc | apply pw_below_drewN | apply below_drew1) | exact HB.out)))); have n6_ := Aside0.mk (below_step (by repeat (first | (with_reducible first | exact HB.out | apply below_alloc | apply pw_below_drewN | apply below_drew1) | exact HB.out)) hb); clear HO213; clear HO216; clear HO218; clear HO224; clear HO229; clear HB; clear HO232; have HO213 := n0_; have HO216 := n1_; have HO218 := n2_; have HO224 := n3_; have HO229 := n4_; have HO235 := n5_; have HB := n6_; clear n0_ n1_ n2_ n3_ n4_ n5_ n6_; clear hb ho23))
    have H := HS6.out
    clear HS6
    by_cases c24 : (strOfNums t214).toList = ([53, 1, 1, 12, 0, 255] : List UInt8)
    · rw [if_pos c24] at H
      have c24b0 : ((strOfNums t214).toList == ([53, 1, 1, 12, 0, 255] : List UInt8)) = true := beq_iff_eq.mpr c24
      have c24b1 : ((strOfNums t214).toList != ([53, 1, 1, 12, 0, 255] : List UInt8)) = false := bne_eq_false_iff_eq.mpr c24
      clear c24
      by_cases c25 : t217 = 0
      · rw [if_pos c25] at H
        have c25b0 : (t217 == 0) = true := beq_iff_eq.mpr c25
        have c25b1 : (t217 != 0) = false := bne_eq_false_iff_eq.mpr c25
        clear c25
        by_cases c26 : (t222.length : Int) = 2
        · rw [if_pos c26] at H
          have c26b0 : ((t222.length : Int) == 2) = true := beq_iff_eq.mpr c26
          have c26b1 : ((t222.length : Int) != 2) = false := bne_eq_false_iff_eq.mpr c26
          clear c26
          by_cases c27 : 1 < (t222.length : Int)
          · rw [if_pos c27] at H
            have c27b0 : decide (1 < (t222.length : Int)) = true := decide_eq_true c27
            have c27b1 : decide (1 < t222.length) = true := decide_eq_true (by omega)
            clear c27
            by_cases c28 : ((rd_T70 t222 1).f0) = 12
            · rw [if_pos c28] at H
              have c28b0 : (((rd_T70 t222 1).f0) == 12) = true := beq_iff_eq.mpr c28
              have c28b1 : (((rd_T70 t222 1).f0) != 12) = false := bne_eq_false_iff_eq.mpr c28
              clear c28
              by_cases c29 : t225 = 0
              · rw [if_pos c29] at H
                have c29b0 : (t225 == 0) = true := beq_iff_eq.mpr c29
                have c29b1 : (t225 != 0) = false := bne_eq_false_iff_eq.mpr c29
                clear c29
                by_cases c30 : (strOfNums t226).toList = ([1] : List UInt8)
                · rw [if_pos c30] at H
                  have c30b0 : ((strOfNums t226).toList == ([1] : List UInt8)) = true := beq_iff_eq.mpr c30
                  have c30b1 : ((strOfNums t226).toList != ([1] : List UInt8)) = false := bne_eq_false_iff_eq.mpr c30
                  clear c30
                  by_cases c31 : t227 = true
                  · subst c31
                    have H1 : (if (t236.length : Int) = 305 then (if t239 = 0 then ((tlv_Right.f k t222).bind fun t241 => (some t241)) else (some false)) else (some false)) = some r := by rw [if_pos rfl] at H; exact H
                    clear H
                    have H := H1
                    clear H1
                    by_cases c32 : (t236.length : Int) = 305
                    · rw [if_pos c32] at H
                      have c32b0 : ((t236.length : Int) == 305) = true := beq_iff_eq.mpr c32
                      have c32b1 : ((t236.length : Int) != 305) = false := bne_eq_false_iff_eq.mpr c32
                      clear c32
                      by_cases c33 : t239 = 0
                      · rw [if_pos c33] at H
                        have c33b0 : (t239 == 0) = true := beq_iff_eq.mpr c33
                        have c33b1 : (t239 != 0) = false := bne_eq_false_iff_eq.mpr c33
                        clear c33
                        replace H := Option.bind_eq_some_iff.mp H
                        obtain ⟨t241, A340, H⟩ := H
                        replace H : (some t241) = some r := H
                        have A34 := Aside0.mk A340
                        clear A340
                        obtain rfl := Option.some.inj H
                        obtain ⟨Ao35, co35, eo35⟩ := Kd.N_slice HO235.out
                        subst eo35
                        go_wp2_with (first | (go_at_call 25; (with_reducible refine (tlv_Write.calls k (fun k_ => (some k_ ≠ (.slice Ao12 y211.length co12 : Value).ownBlock ∧ (some k_ ≠ (v215 : Value).ownBlock ∧ (some k_ ≠ (.slice Ao17 t222.length co17 : Value).ownBlock ∧ some k_ ≠ (v228 : Value).ownBlock)))) _ _ y233 t236 t239 _ ?side1 A5.out).mono ?_); (case side1 => exact Kd.N_V (HO235.out)); rintro e w36 ⟨v237, rfl, ho0, hb⟩; have n0_ := Aside0.mk (Kd.N_elder' (by (with_reducible repeat (first | apply Kd.N_alloc | apply Kd.N_drewN | apply Kd.N_drew)); exact HO213.out) (Kd.R_base ho0) hb); have n1_ := Aside0.mk (Kd.R_elder' (by (with_reducible repeat (first | apply Kd.R_alloc | apply Kd.R_drewN | apply Kd.R_drew)); exact HO216.out) (Kd.R_base ho0) hb); have n2_ := Aside0.mk (Kd.V_elder' (by (with_reducible repeat (first | apply Kd.V_alloc | apply Kd.V_drewN | apply Kd.V_drew)); exact HO218.out) (Kd.R_base ho0) hb); have n3_ := Aside0.mk (Kd.N_elder' (by (with_reducible repeat (first | apply Kd.N_alloc | apply Kd.N_drewN | apply Kd.N_drew)); exact HO224.out) (Kd.R_base ho0) hb); have n4_ := Aside0.mk (Kd.R_elder' (by (with_reducible repeat (first | apply Kd.R_alloc | apply Kd.R_drewN | apply Kd.R_drew)); exact HO229.out) (Kd.R_base ho0) hb); have n5_ := Aside0.mk (Kd.N_elder' (by (with_reducible repeat (first | apply Kd.N_alloc | apply Kd.N_drewN | apply Kd.N_drew)); exact HO235.out) (Kd.R_base ho0) hb); have n6_ := Aside0.mk (Kd.R_lower (Kd.R_new' (Kd.R_new' (Kd.R_mono (ok' := fun k_ => True) ho0 (fun _ hk_ => trivial)) (Kd.R_lt (by (with_reducible repeat (first | apply Kd.R_alloc | apply Kd.R_drewN | apply Kd.R_drew)); exact HO216.out))) (Kd.R_lt (by (with_reducible repeat (first | apply Kd.R_alloc | apply Kd.R_drewN | apply Kd.R_drew)); exact HO229.out))) (below_size (by repeat (first | (with_reducible first | exact HB.out | apply below_alloc | apply pw_below_drewN | apply below_drew1) | exact HB.out)))); have n7_ := Aside0.mk (below_step (by repeat (first | (with_reducible first | exact HB.out | apply below_alloc | apply pw_below_drewN | apply below_drew1) | exact HB.out)) hb); clear HO213; clear HO216; clear HO218; clear HO224; clear HO229; clear HO235; clear HB; have HO213 := n0_; have HO216 := n1_; have HO218 := n2_; have HO224 := n3_; have HO229 := n4_; have HO235 := n5_; have HO238 := n6_; have HB := n7_; clear n0_ n1_ n2_ n3_ n4_ n5_ n6_ n7_; (try clear hb); (try clear hb2); (try clear hk); (try clear hi); (try clear ho0); (try clear A5); have hcv37 := own_string (P := Try.prog) Try.underlying25 Try.underlying5 Try.underlying9 (Kd.own_of_R HO216.out); have p240 : 0 ≤ (1 : Int) := (by omega); have q240 : 1 < (t222.length : Int) := of_decide_eq_true (by first | (with_reducible assumption) | assumption); obtain ⟨ad240, A240_1, c240_1, e240, hx240_0, hx240_1, hl240_1, hi240_1⟩ := at_T70 (Kd.N_reads' HO224.out).2.2 1 p240 q240; cases e240; obtain ⟨ce240, hce240, hMe240, hcc240⟩ := Kd.N_get HO224.out z70 1 p240 (by first | exact q240 | exact of_decide_eq_true (by first | (with_reducible assumption) | assumption) | (have e_ := (Kd.N_reads' HO224.out).1; omega)); obtain ⟨ua240_1, uc240_1, rfl, ul240_1, ge240_1⟩ := k70_openF hMe240; have hv240_1 := hcc240 1 _ rfl; rw [add_field _ _ 1 (by omega)] at hv240_1; replace hv240_1 := Option.some.inj (hv240_1.symm.trans hx240_1); injection hv240_1 with hva_ hvn_ hvc_; rw [hva_] at ge240_1; rw [hvc_] at ul240_1; have HL240_1 := Aside0.mk (show Kd.V (Kd.int .u8) 5 _ w.heap.size _ _ ((rd_T70 t222 1).f1) from Kd.V_mk ul240_1 ge240_1); clear hva_ hvn_ hvc_ ge240_1 ul240_1; clear hcc240 hce240; (try simp only [show (1 : Int).toNat = 1 from rfl, Nat.reduceMul, Nat.reduceEqDiff, Go.Addr.add, ↓reduceIte] at hx240_0); (try simp only [show (1 : Int).toNat = 1 from rfl, Nat.reduceMul, Nat.reduceEqDiff, Go.Addr.add, ↓reduceIte] at hx240_1); have qi240 : (1 < t222.length) = True := eq_true (by omega); (try rw [show ((1 : Int)).toNat = 1 from rfl] at hx240_0); (try rw [show 1 * 2 = 2 from rfl] at hx240_0); (try rw [show ((1 : Int)).toNat = 1 from rfl] at hx240_1); (try rw [show 1 * 2 = 2 from rfl] at hx240_1); have HR240_1 := Aside0.mk hi240_1; have HC240_1 := Aside0.mk hl240_1; clear hi240_1 hl240_1; replace p240 := eq_true p240; replace q240 := eq_true q240; have hcv38 := own_string (P := Try.prog) Try.underlying25 Try.underlying5 Try.underlying9 (Kd.own_of_R HO229.out); obtain ⟨Ao39, co39, eo39⟩ := Kd.R_slice HO238.out; subst eo39) | (go_at_call 23; (with_reducible refine (tlv_Right.calls k _ _ t222 t241 _ ?side1 ?side2 A34.out).mono ?_); (case side1 => repeat (first | exact (Kd.N_reads' HO224.out).2.2 | (with_reducible refine Kd.C_alloc ?_ _) | (with_reducible refine Kd.C_drewN ?_ _) | (with_reducible refine Kd.C_drew ?_))); (case side2 => exact (Kd.N_reads' HO224.out).2.1); rintro e w40 ⟨rfl, hb⟩; have n0_ := Aside0.mk (Kd.N_below (by (with_reducible repeat (first | apply Kd.N_alloc | apply Kd.N_drewN | apply Kd.N_drew)); exact HO213.out) hb); have n1_ := Aside0.mk (Kd.R_below (by (with_reducible repeat (first | apply Kd.R_alloc | apply Kd.R_drewN | apply Kd.R_drew)); exact HO216.out) hb); have n2_ := Aside0.mk (Kd.V_below (by (with_reducible repeat (first | apply Kd.V_alloc | apply Kd.V_drewN | apply Kd.V_drew)); exact HO218.out) hb); have n3_ := Aside0.mk (Kd.N_below (by (with_reducible repeat (first | apply Kd.N_alloc | apply Kd.N_drewN | apply Kd.N_drew)); exact HO224.out) hb); have n4_ := Aside0.mk (Kd.R_below (by (with_reducible repeat (first | apply Kd.R_alloc | apply Kd.R_drewN | apply Kd.R_drew)); exact HO229.out) hb); have n5_ := Aside0.mk (Kd.N_below (by (with_reducible repeat (first | apply Kd.N_alloc | apply Kd.N_drewN | apply Kd.N_drew)); exact HO235.out) hb); have n6_ := Aside0.mk (Kd.R_below (by (with_reducible repeat (first | apply Kd.R_alloc | apply Kd.R_drewN | apply Kd.R_drew)); exact HO238.out) hb); have n7_ := Aside0.mk (Kd.V_below (by (with_reducible repeat (first | apply Kd.V_alloc | apply Kd.V_drewN | apply Kd.V_drew)); exact HL240_1.out) hb); have n8_ := Aside0.mk (Kd.C_below (by repeat (first | (with_reducible exact HR240_1.out) | (with_reducible refine Kd.C_alloc ?_ _) | (with_reducible refine Kd.C_drewN ?_ _) | (with_reducible refine Kd.C_drew ?_) | exact HR240_1.out)) hb); have n9_ := Aside0.mk (below_step (by repeat (first | (with_reducible first | exact HB.out | apply below_alloc | apply pw_below_drewN | apply below_drew1) | exact HB.out)) hb); clear HO213; clear HO216; clear HO218; clear HO224; clear HO229; clear HO235; clear HO238; clear HL240_1; clear HR240_1; clear HB; have HO213 := n0_; have HO216 := n1_; have HO218 := n2_; have HO224 := n3_; have HO229 := n4_; have HO235 := n5_; have HO238 := n6_; have HL240_1 := n7_; have HR240_1 := n8_; have HB := n9_; clear n0_ n1_ n2_ n3_ n4_ n5_ n6_ n7_ n8_ n9_; (try clear hb); (try clear hb2); (try clear hk); (try clear hi); (try clear A34)))
                        go_ret
                        exact ⟨by first | rfl | (simp [errW_none, errW_some] <;> rfl) | (simp [*, errW_none, errW_some] <;> rfl), by repeat (first | (with_reducible first | exact HB.out | apply below_alloc | apply pw_below_drewN | apply below_drew1) | exact HB.out)⟩
                      · rw [if_neg c33] at H
                        have c33b0 : (t239 == 0) = false := beq_eq_false_iff_ne.mpr c33
                        have c33b1 : (t239 != 0) = true := bne_iff_ne.mpr c33
                        obtain rfl := Option.some.inj H
                        obtain ⟨Ao41, co41, eo41⟩ := Kd.N_slice HO235.out
                        subst eo41
                        go_wp2_with (first | (go_at_call 25; (with_reducible refine (tlv_Write.calls k (fun k_ => (some k_ ≠ (.slice Ao12 y211.length co12 : Value).ownBlock ∧ (some k_ ≠ (v215 : Value).ownBlock ∧ (some k_ ≠ (.slice Ao17 t222.length co17 : Value).ownBlock ∧ some k_ ≠ (v228 : Value).ownBlock)))) _ _ y233 t236 t239 _ ?side1 A5.out).mono ?_); (case side1 => exact Kd.N_V (HO235.out)); rintro e w42 ⟨v237, rfl, ho0, hb⟩; have n0_ := Aside0.mk (Kd.N_elder' (by (with_reducible repeat (first | apply Kd.N_alloc | apply Kd.N_drewN | apply Kd.N_drew)); exact HO213.out) (Kd.R_base ho0) hb); have n1_ := Aside0.mk (Kd.R_elder' (by (with_reducible repeat (first | apply Kd.R_alloc | apply Kd.R_drewN | apply Kd.R_drew)); exact HO216.out) (Kd.R_base ho0) hb); have n2_ := Aside0.mk (Kd.V_elder' (by (with_reducible repeat (first | apply Kd.V_alloc | apply Kd.V_drewN | apply Kd.V_drew)); exact HO218.out) (Kd.R_base ho0) hb); have n3_ := Aside0.mk (Kd.N_elder' (by (with_reducible repeat (first | apply Kd.N_alloc | apply Kd.N_drewN | apply Kd.N_drew)); exact HO224.out) (Kd.R_base ho0) hb); have n4_ := Aside0.mk (Kd.R_elder' (by (with_reducible repeat (first | apply Kd.R_alloc | apply Kd.R_drewN | apply Kd.R_drew)); exact HO229.out) (Kd.R_base ho0) hb); have n5_ := Aside0.mk (Kd.N_elder' (by (with_reducible repeat (first | apply Kd.N_alloc | apply Kd.N_drewN | apply Kd.N_drew)); exact HO235.out) (Kd.R_base ho0) hb); have n6_ := Aside0.mk (Kd.R_lower (Kd.R_new' (Kd.R_new' (Kd.R_mono (ok' := fun k_ => True) ho0 (fun _ hk_ => trivial)) (Kd.R_lt (by (with_reducible repeat (first | apply Kd.R_alloc | apply Kd.R_drewN | apply Kd.R_drew)); exact HO216.out))) (Kd.R_lt (by (with_reducible repeat (first | apply Kd.R_alloc | apply Kd.R_drewN | apply Kd.R_drew)); exact HO229.out))) (below_size (by repeat (first | (with_reducible first | exact HB.out | apply below_alloc | apply pw_below_drewN | apply below_drew1) | exact HB.out)))); have n7_ := Aside0.mk (below_step (by repeat (first | (with_reducible first | exact HB.out | apply below_alloc | apply pw_below_drewN | apply below_drew1) | exact HB.out)) hb); clear HO213; clear HO216; clear HO218; clear HO224; clear HO229; clear HO235; clear HB; have HO213 := n0_; have HO216 := n1_; have HO218 := n2_; have HO224 := n3_; have HO229 := n4_; have HO235 := n5_; have HO238 := n6_; have HB := n7_; clear n0_ n1_ n2_ n3_ n4_ n5_ n6_ n7_; (try clear hb); (try clear hb2); (try clear hk); (try clear hi); (try clear ho0); (try clear A5); have hcv43 := own_string (P := Try.prog) Try.underlying25 Try.underlying5 Try.underlying9 (Kd.own_of_R HO216.out); have p240 : 0 ≤ (1 : Int) := (by omega); have q240 : 1 < (t222.length : Int) := of_decide_eq_true (by first | (with_reducible assumption) | assumption); obtain ⟨ad240, A240_1, c240_1, e240, hx240_0, hx240_1, hl240_1, hi240_1⟩ := at_T70 (Kd.N_reads' HO224.out).2.2 1 p240 q240; cases e240; obtain ⟨ce240, hce240, hMe240, hcc240⟩ := Kd.N_get HO224.out z70 1 p240 (by first | exact q240 | exact of_decide_eq_true (by first | (with_reducible assumption) | assumption) | (have e_ := (Kd.N_reads' HO224.out).1; omega)); obtain ⟨ua240_1, uc240_1, rfl, ul240_1, ge240_1⟩ := k70_openF hMe240; have hv240_1 := hcc240 1 _ rfl; rw [add_field _ _ 1 (by omega)] at hv240_1; replace hv240_1 := Option.some.inj (hv240_1.symm.trans hx240_1); injection hv240_1 with hva_ hvn_ hvc_; rw [hva_] at ge240_1; rw [hvc_] at ul240_1; have HL240_1 := Aside0.mk (show Kd.V (Kd.int .u8) 5 _ w.heap.size _ _ ((rd_T70 t222 1).f1) from Kd.V_mk ul240_1 ge240_1); clear hva_ hvn_ hvc_ ge240_1 ul240_1; clear hcc240 hce240; (try simp only [show (1 : Int).toNat = 1 from rfl, Nat.reduceMul, Nat.reduceEqDiff, Go.Addr.add, ↓reduceIte] at hx240_0); (try simp only [show (1 : Int).toNat = 1 from rfl, Nat.reduceMul, Nat.reduceEqDiff, Go.Addr.add, ↓reduceIte] at hx240_1); have qi240 : (1 < t222.length) = True := eq_true (by omega); (try rw [show ((1 : Int)).toNat = 1 from rfl] at hx240_0); (try rw [show 1 * 2 = 2 from rfl] at hx240_0); (try rw [show ((1 : Int)).toNat = 1 from rfl] at hx240_1); (try rw [show 1 * 2 = 2 from rfl] at hx240_1); have HR240_1 := Aside0.mk hi240_1; have HC240_1 := Aside0.mk hl240_1; clear hi240_1 hl240_1; replace p240 := eq_true p240; replace q240 := eq_true q240; have hcv44 := own_string (P := Try.prog) Try.underlying25 Try.underlying5 Try.underlying9 (Kd.own_of_R HO229.out); obtain ⟨Ao45, co45, eo45⟩ := Kd.R_slice HO238.out; subst eo45))
                        go_ret
                        exact ⟨by first | rfl | (simp [errW_none, errW_some] <;> rfl) | (simp [*, errW_none, errW_some] <;> rfl), by repeat (first | (with_reducible first | exact HB.out | apply below_alloc | apply pw_below_drewN | apply below_drew1) | exact HB.out)⟩
                    · rw [if_neg c32] at H
                      have c32b0 : ((t236.length : Int) == 305) = false := beq_eq_false_iff_ne.mpr c32
                      have c32b1 : ((t236.length : Int) != 305) = true := bne_iff_ne.mpr c32
                      obtain rfl := Option.some.inj H
                      obtain ⟨Ao46, co46, eo46⟩ := Kd.N_slice HO235.out
                      subst eo46
                      go_wp2_with (first | (go_at_call 25; (with_reducible refine (tlv_Write.calls k (fun k_ => (some k_ ≠ (.slice Ao12 y211.length co12 : Value).ownBlock ∧ (some k_ ≠ (v215 : Value).ownBlock ∧ (some k_ ≠ (.slice Ao17 t222.length co17 : Value).ownBlock ∧ some k_ ≠ (v228 : Value).ownBlock)))) _ _ y233 t236 t239 _ ?side1 A5.out).mono ?_); (case side1 => exact Kd.N_V (HO235.out)); rintro e w47 ⟨v237, rfl, ho0, hb⟩; have n0_ := Aside0.mk (Kd.N_elder' (by (with_reducible repeat (first | apply Kd.N_alloc | apply Kd.N_drewN | apply Kd.N_drew)); exact HO213.out) (Kd.R_base ho0) hb); have n1_ := Aside0.mk (Kd.R_elder' (by (with_reducible repeat (first | apply Kd.R_alloc | apply Kd.R_drewN | apply Kd.R_drew)); exact HO216.out) (Kd.R_base ho0) hb); have n2_ := Aside0.mk (Kd.V_elder' (by (with_reducible repeat (first | apply Kd.V_alloc | apply Kd.V_drewN | apply Kd.V_drew)); exact HO218.out) (Kd.R_base ho0) hb); have n3_ := Aside0.mk (Kd.N_elder' (by (with_reducible repeat (first | apply Kd.N_alloc | apply Kd.N_drewN | apply Kd.N_drew)); exact HO224.out) (Kd.R_base ho0) hb); have n4_ := Aside0.mk (Kd.R_elder' (by (with_reducible repeat (first | apply Kd.R_alloc | apply Kd.R_drewN | apply Kd.R_drew)); exact HO229.out) (Kd.R_base ho0) hb); have n5_ := Aside0.mk (Kd.N_elder' (by (with_reducible repeat (first | apply Kd.N_alloc | apply Kd.N_drewN | apply Kd.N_drew)); exact HO235.out) (Kd.R_base ho0) hb); have n6_ := Aside0.mk (Kd.R_lower (Kd.R_new' (Kd.R_new' (Kd.R_mono (ok' := fun k_ => True) ho0 (fun _ hk_ => trivial)) (Kd.R_lt (by (with_reducible repeat (first | apply Kd.R_alloc | apply Kd.R_drewN | apply Kd.R_drew)); exact HO216.out))) (Kd.R_lt (by (with_reducible repeat (first | apply Kd.R_alloc | apply Kd.R_drewN | apply Kd.R_drew)); exact HO229.out))) (below_size (by repeat (first | (with_reducible first | exact HB.out | apply below_alloc | apply pw_below_drewN | apply below_drew1) | exact HB.out)))); have n7_ := Aside0.mk (below_step (by repeat (first | (with_reducible first | exact HB.out | apply below_alloc | apply pw_below_drewN | apply below_drew1) | exact HB.out)) hb); clear HO213; clear HO216; clear HO218; clear HO224; clear HO229; clear HO235; clear HB; have HO213 := n0_; have HO216 := n1_; have HO218 := n2_; have HO224 := n3_; have HO229 := n4_; have HO235 := n5_; have HO238 := n6_; have HB := n7_; clear n0_ n1_ n2_ n3_ n4_ n5_ n6_ n7_; (try clear hb); (try clear hb2); (try clear hk); (try clear hi); (try clear ho0); (try clear A5); have hcv48 := own_string (P := Try.prog) Try.underlying25 Try.underlying5 Try.underlying9 (Kd.own_of_R HO216.out); have p240 : 0 ≤ (1 : Int) := (by omega); have q240 : 1 < (t222.length : Int) := of_decide_eq_true (by first | (with_reducible assumption) | assumption); obtain ⟨ad240, A240_1, c240_1, e240, hx240_0, hx240_1, hl240_1, hi240_1⟩ := at_T70 (Kd.N_reads' HO224.out).2.2 1 p240 q240; cases e240; obtain ⟨ce240, hce240, hMe240, hcc240⟩ := Kd.N_get HO224.out z70 1 p240 (by first | exact q240 | exact of_decide_eq_true (by first | (with_reducible assumption) | assumption) | (have e_ := (Kd.N_reads' HO224.out).1; omega)); obtain ⟨ua240_1, uc240_1, rfl, ul240_1, ge240_1⟩ := k70_openF hMe240; have hv240_1 := hcc240 1 _ rfl; rw [add_field _ _ 1 (by omega)] at hv240_1; replace hv240_1 := Option.some.inj (hv240_1.symm.trans hx240_1); injection hv240_1 with hva_ hvn_ hvc_; rw [hva_] at ge240_1; rw [hvc_] at ul240_1; have HL240_1 := Aside0.mk (show Kd.V (Kd.int .u8) 5 _ w.heap.size _ _ ((rd_T70 t222 1).f1) from Kd.V_mk ul240_1 ge240_1); clear hva_ hvn_ hvc_ ge240_1 ul240_1; clear hcc240 hce240; (try simp only [show (1 : Int).toNat = 1 from rfl, Nat.reduceMul, Nat.reduceEqDiff, Go.Addr.add, ↓reduceIte] at hx240_0); (try simp only [show (1 : Int).toNat = 1 from rfl, Nat.reduceMul, Nat.reduceEqDiff, Go.Addr.add, ↓reduceIte] at hx240_1); have qi240 : (1 < t222.length) = True := eq_true (by omega); (try rw [show ((1 : Int)).toNat = 1 from rfl] at hx240_0); (try rw [show 1 * 2 = 2 from rfl] at hx240_0); (try rw [show ((1 : Int)).toNat = 1 from rfl] at hx240_1); (try rw [show 1 * 2 = 2 from rfl] at hx240_1); have HR240_1 := Aside0.mk hi240_1; have HC240_1 := Aside0.mk hl240_1; clear hi240_1 hl240_1; replace p240 := eq_true p240; replace q240 := eq_true q240; have hcv49 := own_string (P := Try.prog) Try.underlying25 Try.underlying5 Try.underlying9 (Kd.own_of_R HO229.out); obtain ⟨Ao50, co50, eo50⟩ := Kd.R_slice HO238.out; subst eo50))
                      go_ret
                      exact ⟨by first | rfl | (simp [errW_none, errW_some] <;> rfl) | (simp [*, errW_none, errW_some] <;> rfl), by repeat (first | (with_reducible first | exact HB.out | apply below_alloc | apply pw_below_drewN | apply below_drew1) | exact HB.out)⟩
                  · replace c31 := Bool.eq_false_iff.mpr c31
                    subst c31
                    have H1 : (some false) = some r := by rw [if_neg (show ¬ (false = true) by decide)] at H; exact H
                    clear H
                    have H := H1
                    clear H1
                    obtain rfl := Option.some.inj H
                    obtain ⟨Ao51, co51, eo51⟩ := Kd.N_slice HO235.out
                    subst eo51
                    go_wp2_with (first | (go_at_call 25; (with_reducible refine (tlv_Write.calls k (fun k_ => (some k_ ≠ (.slice Ao12 y211.length co12 : Value).ownBlock ∧ (some k_ ≠ (v215 : Value).ownBlock ∧ (some k_ ≠ (.slice Ao17 t222.length co17 : Value).ownBlock ∧ some k_ ≠ (v228 : Value).ownBlock)))) _ _ y233 t236 t239 _ ?side1 A5.out).mono ?_); (case side1 => exact Kd.N_V (HO235.out)); rintro e w52 ⟨v237, rfl, ho0, hb⟩; have n0_ := Aside0.mk (Kd.N_elder' (by (with_reducible repeat (first | apply Kd.N_alloc | apply Kd.N_drewN | apply Kd.N_drew)); exact HO213.out) (Kd.R_base ho0) hb); have n1_ := Aside0.mk (Kd.R_elder' (by (with_reducible repeat (first | apply Kd.R_alloc | apply Kd.R_drewN | apply Kd.R_drew)); exact HO216.out) (Kd.R_base ho0) hb); have n2_ := Aside0.mk (Kd.V_elder' (by (with_reducible repeat (first | apply Kd.V_alloc | apply Kd.V_drewN | apply Kd.V_drew)); exact HO218.out) (Kd.R_base ho0) hb); have n3_ := Aside0.mk (Kd.N_elder' (by (with_reducible repeat (first | apply Kd.N_alloc | apply Kd.N_drewN | apply Kd.N_drew)); exact HO224.out) (Kd.R_base ho0) hb); have n4_ := Aside0.mk (Kd.R_elder' (by (with_reducible repeat (first | apply Kd.R_alloc | apply Kd.R_drewN | apply Kd.R_drew)); exact HO229.out) (Kd.R_base ho0) hb); have n5_ := Aside0.mk (Kd.N_elder' (by (with_reducible repeat (first | apply Kd.N_alloc | apply Kd.N_drewN | apply Kd.N_drew)); exact HO235.out) (Kd.R_base ho0) hb); have n6_ := Aside0.mk (Kd.R_lower (Kd.R_new' (Kd.R_new' (Kd.R_mono (ok' := fun k_ => True) ho0 (fun _ hk_ => trivial)) (Kd.R_lt (by (with_reducible repeat (first | apply Kd.R_alloc | apply Kd.R_drewN | apply Kd.R_drew)); exact HO216.out))) (Kd.R_lt (by (with_reducible repeat (first | apply Kd.R_alloc | apply Kd.R_drewN | apply Kd.R_drew)); exact HO229.out))) (below_size (by repeat (first | (with_reducible first | exact HB.out | apply below_alloc | apply pw_below_drewN | apply below_drew1) | exact HB.out)))); have n7_ := Aside0.mk (below_step (by repeat (first | (with_reducible first | exact HB.out | apply below_alloc | apply pw_below_drewN | apply below_drew1) | exact HB.out)) hb); clear HO213; clear HO216; clear HO218; clear HO224; clear HO229; clear HO235; clear HB; have HO213 := n0_; have HO216 := n1_; have HO218 := n2_; have HO224 := n3_; have HO229 := n4_; have HO235 := n5_; have HO238 := n6_; have HB := n7_; clear n0_ n1_ n2_ n3_ n4_ n5_ n6_ n7_; (try clear hb); (try clear hb2); (try clear hk); (try clear hi); (try clear ho0); (try clear A5); have hcv53 := own_string (P := Try.prog) Try.underlying25 Try.underlying5 Try.underlying9 (Kd.own_of_R HO216.out); have p240 : 0 ≤ (1 : Int) := (by omega); have q240 : 1 < (t222.length : Int) := of_decide_eq_true (by first | (with_reducible assumption) | assumption); obtain ⟨ad240, A240_1, c240_1, e240, hx240_0, hx240_1, hl240_1, hi240_1⟩ := at_T70 (Kd.N_reads' HO224.out).2.2 1 p240 q240; cases e240; obtain ⟨ce240, hce240, hMe240, hcc240⟩ := Kd.N_get HO224.out z70 1 p240 (by first | exact q240 | exact of_decide_eq_true (by first | (with_reducible assumption) | assumption) | (have e_ := (Kd.N_reads' HO224.out).1; omega)); obtain ⟨ua240_1, uc240_1, rfl, ul240_1, ge240_1⟩ := k70_openF hMe240; have hv240_1 := hcc240 1 _ rfl; rw [add_field _ _ 1 (by omega)] at hv240_1; replace hv240_1 := Option.some.inj (hv240_1.symm.trans hx240_1); injection hv240_1 with hva_ hvn_ hvc_; rw [hva_] at ge240_1; rw [hvc_] at ul240_1; have HL240_1 := Aside0.mk (show Kd.V (Kd.int .u8) 5 _ w.heap.size _ _ ((rd_T70 t222 1).f1) from Kd.V_mk ul240_1 ge240_1); clear hva_ hvn_ hvc_ ge240_1 ul240_1; clear hcc240 hce240; (try simp only [show (1 : Int).toNat = 1 from rfl, Nat.reduceMul, Nat.reduceEqDiff, Go.Addr.add, ↓reduceIte] at hx240_0); (try simp only [show (1 : Int).toNat = 1 from rfl, Nat.reduceMul, Nat.reduceEqDiff, Go.Addr.add, ↓reduceIte] at hx240_1); have qi240 : (1 < t222.length) = True := eq_true (by omega); (try rw [show ((1 : Int)).toNat = 1 from rfl] at hx240_0); (try rw [show 1 * 2 = 2 from rfl] at hx240_0); (try rw [show ((1 : Int)).toNat = 1 from rfl] at hx240_1); (try rw [show 1 * 2 = 2 from rfl] at hx240_1); have HR240_1 := Aside0.mk hi240_1; have HC240_1 := Aside0.mk hl240_1; clear hi240_1 hl240_1; replace p240 := eq_true p240; replace q240 := eq_true q240; have hcv54 := own_string (P := Try.prog) Try.underlying25 Try.underlying5 Try.underlying9 (Kd.own_of_R HO229.out)))
                    go_ret
                    exact ⟨by first | rfl | (simp [errW_none, errW_some] <;> rfl) | (simp [*, errW_none, errW_some] <;> rfl), by repeat (first | (with_reducible first | exact HB.out | apply below_alloc | apply pw_below_drewN | apply below_drew1) | exact HB.out)⟩
                · rw [if_neg c30] at H
                  have c30b0 : ((strOfNums t226).toList == ([1] : List UInt8)) = false := beq_eq_false_iff_ne.mpr c30
                  have c30b1 : ((strOfNums t226).toList != ([1] : List UInt8)) = true := bne_iff_ne.mpr c30
                  obtain rfl := Option.some.inj H
                  obtain ⟨Ao55, co55, eo55⟩ := Kd.N_slice HO235.out
                  subst eo55
                  go_wp2_with (first | (go_at_call 25; (with_reducible refine (tlv_Write.calls k (fun k_ => (some k_ ≠ (.slice Ao12 y211.length co12 : Value).ownBlock ∧ (some k_ ≠ (v215 : Value).ownBlock ∧ (some k_ ≠ (.slice Ao17 t222.length co17 : Value).ownBlock ∧ some k_ ≠ (v228 : Value).ownBlock)))) _ _ y233 t236 t239 _ ?side1 A5.out).mono ?_); (case side1 => exact Kd.N_V (HO235.out)); rintro e w56 ⟨v237, rfl, ho0, hb⟩; have n0_ := Aside0.mk (Kd.N_elder' (by (with_reducible repeat (first | apply Kd.N_alloc | apply Kd.N_drewN | apply Kd.N_drew)); exact HO213.out) (Kd.R_base ho0) hb); have n1_ := Aside0.mk (Kd.R_elder' (by (with_reducible repeat (first | apply Kd.R_alloc | apply Kd.R_drewN | apply Kd.R_drew)); exact HO216.out) (Kd.R_base ho0) hb); have n2_ := Aside0.mk (Kd.V_elder' (by (with_reducible repeat (first | apply Kd.V_alloc | apply Kd.V_drewN | apply Kd.V_drew)); exact HO218.out) (Kd.R_base ho0) hb); have n3_ := Aside0.mk (Kd.N_elder' (by (with_reducible repeat (first | apply Kd.N_alloc | apply Kd.N_drewN | apply Kd.N_drew)); exact HO224.out) (Kd.R_base ho0) hb); have n4_ := Aside0.mk (Kd.R_elder' (by (with_reducible repeat (first | apply Kd.R_alloc | apply Kd.R_drewN | apply Kd.R_drew)); exact HO229.out) (Kd.R_base ho0) hb); have n5_ := Aside0.mk (Kd.N_elder' (by (with_reducible repeat (first | apply Kd.N_alloc | apply Kd.N_drewN | apply Kd.N_drew)); exact HO235.out) (Kd.R_base ho0) hb); have n6_ := Aside0.mk (Kd.R_lower (Kd.R_new' (Kd.R_new' (Kd.R_mono (ok' := fun k_ => True) ho0 (fun _ hk_ => trivial)) (Kd.R_lt (by (with_reducible repeat (first | apply Kd.R_alloc | apply Kd.R_drewN | apply Kd.R_drew)); exact HO216.out))) (Kd.R_lt (by (with_reducible repeat (first | apply Kd.R_alloc | apply Kd.R_drewN | apply Kd.R_drew)); exact HO229.out))) (below_size (by repeat (first | (with_reducible first | exact HB.out | apply below_alloc | apply pw_below_drewN | apply below_drew1) | exact HB.out)))); have n7_ := Aside0.mk (below_step (by repeat (first | (with_reducible first | exact HB.out | apply below_alloc | apply pw_below_drewN | apply below_drew1) | exact HB.out)) hb); clear HO213; clear HO216; clear HO218; clear HO224; clear HO229; clear HO235; clear HB; have HO213 := n0_; have HO216 := n1_; have HO218 := n2_; have HO224 := n3_; have HO229 := n4_; have HO235 := n5_; have HO238 := n6_; have HB := n7_; clear n0_ n1_ n2_ n3_ n4_ n5_ n6_ n7_; (try clear hb); (try clear hb2); (try clear hk); (try clear hi); (try clear ho0); (try clear A5); have hcv57 := own_string (P := Try.prog) Try.underlying25 Try.underlying5 Try.underlying9 (Kd.own_of_R HO216.out); have p240 : 0 ≤ (1 : Int) := (by omega); have q240 : 1 < (t222.length : Int) := of_decide_eq_true (by first | (with_reducible assumption) | assumption); obtain ⟨ad240, A240_1, c240_1, e240, hx240_0, hx240_1, hl240_1, hi240_1⟩ := at_T70 (Kd.N_reads' HO224.out).2.2 1 p240 q240; cases e240; obtain ⟨ce240, hce240, hMe240, hcc240⟩ := Kd.N_get HO224.out z70 1 p240 (by first | exact q240 | exact of_decide_eq_true (by first | (with_reducible assumption) | assumption) | (have e_ := (Kd.N_reads' HO224.out).1; omega)); obtain ⟨ua240_1, uc240_1, rfl, ul240_1, ge240_1⟩ := k70_openF hMe240; have hv240_1 := hcc240 1 _ rfl; rw [add_field _ _ 1 (by omega)] at hv240_1; replace hv240_1 := Option.some.inj (hv240_1.symm.trans hx240_1); injection hv240_1 with hva_ hvn_ hvc_; rw [hva_] at ge240_1; rw [hvc_] at ul240_1; have HL240_1 := Aside0.mk (show Kd.V (Kd.int .u8) 5 _ w.heap.size _ _ ((rd_T70 t222 1).f1) from Kd.V_mk ul240_1 ge240_1); clear hva_ hvn_ hvc_ ge240_1 ul240_1; clear hcc240 hce240; (try simp only [show (1 : Int).toNat = 1 from rfl, Nat.reduceMul, Nat.reduceEqDiff, Go.Addr.add, ↓reduceIte] at hx240_0); (try simp only [show (1 : Int).toNat = 1 from rfl, Nat.reduceMul, Nat.reduceEqDiff, Go.Addr.add, ↓reduceIte] at hx240_1); have qi240 : (1 < t222.length) = True := eq_true (by omega); (try rw [show ((1 : Int)).toNat = 1 from rfl] at hx240_0); (try rw [show 1 * 2 = 2 from rfl] at hx240_0); (try rw [show ((1 : Int)).toNat = 1 from rfl] at hx240_1); (try rw [show 1 * 2 = 2 from rfl] at hx240_1); have HR240_1 := Aside0.mk hi240_1; have HC240_1 := Aside0.mk hl240_1; clear hi240_1 hl240_1; replace p240 := eq_true p240; replace q240 := eq_true q240; have hcv58 := own_string (P := Try.prog) Try.underlying25 Try.underlying5 Try.underlying9 (Kd.own_of_R HO229.out)))
                  go_ret
                  exact ⟨by first | rfl | (simp [errW_none, errW_some] <;> rfl) | (simp [*, errW_none, errW_some] <;> rfl), by repeat (first | (with_reducible first | exact HB.out | apply below_alloc | apply pw_below_drewN | apply below_drew1) | exact HB.out)⟩
              · rw [if_neg c29] at H
                have c29b0 : (t225 == 0) = false := beq_eq_false_iff_ne.mpr c29
                have c29b1 : (t225 != 0) = true := bne_iff_ne.mpr c29
                obtain rfl := Option.some.inj H
                obtain ⟨Ao59, co59, eo59⟩ := Kd.N_slice HO235.out
                subst eo59
                go_wp2_with (first | (go_at_call 25; (with_reducible refine (tlv_Write.calls k (fun k_ => (some k_ ≠ (.slice Ao12 y211.length co12 : Value).ownBlock ∧ (some k_ ≠ (v215 : Value).ownBlock ∧ (some k_ ≠ (.slice Ao17 t222.length co17 : Value).ownBlock ∧ some k_ ≠ (v228 : Value).ownBlock)))) _ _ y233 t236 t239 _ ?side1 A5.out).mono ?_); (case side1 => exact Kd.N_V (HO235.out)); rintro e w60 ⟨v237, rfl, ho0, hb⟩; have n0_ := Aside0.mk (Kd.N_elder' (by (with_reducible repeat (first | apply Kd.N_alloc | apply Kd.N_drewN | apply Kd.N_drew)); exact HO213.out) (Kd.R_base ho0) hb); have n1_ := Aside0.mk (Kd.R_elder' (by (with_reducible repeat (first | apply Kd.R_alloc | apply Kd.R_drewN | apply Kd.R_drew)); exact HO216.out) (Kd.R_base ho0) hb); have n2_ := Aside0.mk (Kd.V_elder' (by (with_reducible repeat (first | apply Kd.V_alloc | apply Kd.V_drewN | apply Kd.V_drew)); exact HO218.out) (Kd.R_base ho0) hb); have n3_ := Aside0.mk (Kd.N_elder' (by (with_reducible repeat (first | apply Kd.N_alloc | apply Kd.N_drewN | apply Kd.N_drew)); exact HO224.out) (Kd.R_base ho0) hb); have n4_ := Aside0.mk (Kd.R_elder' (by (with_reducible repeat (first | apply Kd.R_alloc | apply Kd.R_drewN | apply Kd.R_drew)); exact HO229.out) (Kd.R_base ho0) hb); have n5_ := Aside0.mk (Kd.N_elder' (by (with_reducible repeat (first | apply Kd.N_alloc | apply Kd.N_drewN | apply Kd.N_drew)); exact HO235.out) (Kd.R_base ho0) hb); have n6_ := Aside0.mk (Kd.R_lower (Kd.R_new' (Kd.R_new' (Kd.R_mono (ok' := fun k_ => True) ho0 (fun _ hk_ => trivial)) (Kd.R_lt (by (with_reducible repeat (first | apply Kd.R_alloc | apply Kd.R_drewN | apply Kd.R_drew)); exact HO216.out))) (Kd.R_lt (by (with_reducible repeat (first | apply Kd.R_alloc | apply Kd.R_drewN | apply Kd.R_drew)); exact HO229.out))) (below_size (by repeat (first | (with_reducible first | exact HB.out | apply below_alloc | apply pw_below_drewN | apply below_drew1) | exact HB.out)))); have n7_ := Aside0.mk (below_step (by repeat (first | (with_reducible first | exact HB.out | apply below_alloc | apply pw_below_drewN | apply below_drew1) | exact HB.out)) hb); clear HO213; clear HO216; clear HO218; clear HO224; clear HO229; clear HO235; clear HB; have HO213 := n0_; have HO216 := n1_; have HO218 := n2_; have HO224 := n3_; have HO229 := n4_; have HO235 := n5_; have HO238 := n6_; have HB := n7_; clear n0_ n1_ n2_ n3_ n4_ n5_ n6_ n7_; (try clear hb); (try clear hb2); (try clear hk); (try clear hi); (try clear ho0); (try clear A5); have hcv61 := own_string (P := Try.prog) Try.underlying25 Try.underlying5 Try.underlying9 (Kd.own_of_R HO216.out); have p240 : 0 ≤ (1 : Int) := (by omega); have q240 : 1 < (t222.length : Int) := of_decide_eq_true (by first | (with_reducible assumption) | assumption); obtain ⟨ad240, A240_1, c240_1, e240, hx240_0, hx240_1, hl240_1, hi240_1⟩ := at_T70 (Kd.N_reads' HO224.out).2.2 1 p240 q240; cases e240; obtain ⟨ce240, hce240, hMe240, hcc240⟩ := Kd.N_get HO224.out z70 1 p240 (by first | exact q240 | exact of_decide_eq_true (by first | (with_reducible assumption) | assumption) | (have e_ := (Kd.N_reads' HO224.out).1; omega)); obtain ⟨ua240_1, uc240_1, rfl, ul240_1, ge240_1⟩ := k70_openF hMe240; have hv240_1 := hcc240 1 _ rfl; rw [add_field _ _ 1 (by omega)] at hv240_1; replace hv240_1 := Option.some.inj (hv240_1.symm.trans hx240_1); injection hv240_1 with hva_ hvn_ hvc_; rw [hva_] at ge240_1; rw [hvc_] at ul240_1; have HL240_1 := Aside0.mk (show Kd.V (Kd.int .u8) 5 _ w.heap.size _ _ ((rd_T70 t222 1).f1) from Kd.V_mk ul240_1 ge240_1); clear hva_ hvn_ hvc_ ge240_1 ul240_1; clear hcc240 hce240; (try simp only [show (1 : Int).toNat = 1 from rfl, Nat.reduceMul, Nat.reduceEqDiff, Go.Addr.add, ↓reduceIte] at hx240_0); (try simp only [show (1 : Int).toNat = 1 from rfl, Nat.reduceMul, Nat.reduceEqDiff, Go.Addr.add, ↓reduceIte] at hx240_1); have qi240 : (1 < t222.length) = True := eq_true (by omega); (try rw [show ((1 : Int)).toNat = 1 from rfl] at hx240_0); (try rw [show 1 * 2 = 2 from rfl] at hx240_0); (try rw [show ((1 : Int)).toNat = 1 from rfl] at hx240_1); (try rw [show 1 * 2 = 2 from rfl] at hx240_1); have HR240_1 := Aside0.mk hi240_1; have HC240_1 := Aside0.mk hl240_1; clear hi240_1 hl240_1; replace p240 := eq_true p240; replace q240 := eq_true q240))
                go_ret
                exact ⟨by first | rfl | (simp [errW_none, errW_some] <;> rfl) | (simp [*, errW_none, errW_some] <;> rfl), by repeat (first | (with_reducible first | exact HB.out | apply below_alloc | apply pw_below_drewN | apply below_drew1) | exact HB.out)⟩
            · rw [if_neg c28] at H
              have c28b0 : (((rd_T70 t222 1).f0) == 12) = false := beq_eq_false_iff_ne.mpr c28
              have c28b1 : (((rd_T70 t222 1).f0) != 12) = true := bne_iff_ne.mpr c28
              obtain rfl := Option.some.inj H
              obtain ⟨Ao62, co62, eo62⟩ := Kd.N_slice HO235.out
              subst eo62
              go_wp2_with (first | (go_at_call 25; (with_reducible refine (tlv_Write.calls k (fun k_ => (some k_ ≠ (.slice Ao12 y211.length co12 : Value).ownBlock ∧ (some k_ ≠ (v215 : Value).ownBlock ∧ (some k_ ≠ (.slice Ao17 t222.length co17 : Value).ownBlock ∧ some k_ ≠ (v228 : Value).ownBlock)))) _ _ y233 t236 t239 _ ?side1 A5.out).mono ?_); (case side1 => exact Kd.N_V (HO235.out)); rintro e w63 ⟨v237, rfl, ho0, hb⟩; have n0_ := Aside0.mk (Kd.N_elder' (by (with_reducible repeat (first | apply Kd.N_alloc | apply Kd.N_drewN | apply Kd.N_drew)); exact HO213.out) (Kd.R_base ho0) hb); have n1_ := Aside0.mk (Kd.R_elder' (by (with_reducible repeat (first | apply Kd.R_alloc | apply Kd.R_drewN | apply Kd.R_drew)); exact HO216.out) (Kd.R_base ho0) hb); have n2_ := Aside0.mk (Kd.V_elder' (by (with_reducible repeat (first | apply Kd.V_alloc | apply Kd.V_drewN | apply Kd.V_drew)); exact HO218.out) (Kd.R_base ho0) hb); have n3_ := Aside0.mk (Kd.N_elder' (by (with_reducible repeat (first | apply Kd.N_alloc | apply Kd.N_drewN | apply Kd.N_drew)); exact HO224.out) (Kd.R_base ho0) hb); have n4_ := Aside0.mk (Kd.R_elder' (by (with_reducible repeat (first | apply Kd.R_alloc | apply Kd.R_drewN | apply Kd.R_drew)); exact HO229.out) (Kd.R_base ho0) hb); have n5_ := Aside0.mk (Kd.N_elder' (by (with_reducible repeat (first | apply Kd.N_alloc | apply Kd.N_drewN | apply Kd.N_drew)); exact HO235.out) (Kd.R_base ho0) hb); have n6_ := Aside0.mk (Kd.R_lower (Kd.R_new' (Kd.R_new' (Kd.R_mono (ok' := fun k_ => True) ho0 (fun _ hk_ => trivial)) (Kd.R_lt (by (with_reducible repeat (first | apply Kd.R_alloc | apply Kd.R_drewN | apply Kd.R_drew)); exact HO216.out))) (Kd.R_lt (by (with_reducible repeat (first | apply Kd.R_alloc | apply Kd.R_drewN | apply Kd.R_drew)); exact HO229.out))) (below_size (by repeat (first | (with_reducible first | exact HB.out | apply below_alloc | apply pw_below_drewN | apply below_drew1) | exact HB.out)))); have n7_ := Aside0.mk (below_step (by repeat (first | (with_reducible first | exact HB.out | apply below_alloc | apply pw_below_drewN | apply below_drew1) | exact HB.out)) hb); clear HO213; clear HO216; clear HO218; clear HO224; clear HO229; clear HO235; clear HB; have HO213 := n0_; have HO216 := n1_; have HO218 := n2_; have HO224 := n3_; have HO229 := n4_; have HO235 := n5_; have HO238 := n6_; have HB := n7_; clear n0_ n1_ n2_ n3_ n4_ n5_ n6_ n7_; (try clear hb); (try clear hb2); (try clear hk); (try clear hi); (try clear ho0); (try clear A5); have hcv64 := own_string (P := Try.prog) Try.underlying25 Try.underlying5 Try.underlying9 (Kd.own_of_R HO216.out); have p240 : 0 ≤ (1 : Int) := (by omega); have q240 : 1 < (t222.length : Int) := of_decide_eq_true (by first | (with_reducible assumption) | assumption); obtain ⟨ad240, A240_1, c240_1, e240, hx240_0, hx240_1, hl240_1, hi240_1⟩ := at_T70 (Kd.N_reads' HO224.out).2.2 1 p240 q240; cases e240; obtain ⟨ce240, hce240, hMe240, hcc240⟩ := Kd.N_get HO224.out z70 1 p240 (by first | exact q240 | exact of_decide_eq_true (by first | (with_reducible assumption) | assumption) | (have e_ := (Kd.N_reads' HO224.out).1; omega)); obtain ⟨ua240_1, uc240_1, rfl, ul240_1, ge240_1⟩ := k70_openF hMe240; have hv240_1 := hcc240 1 _ rfl; rw [add_field _ _ 1 (by omega)] at hv240_1; replace hv240_1 := Option.some.inj (hv240_1.symm.trans hx240_1); injection hv240_1 with hva_ hvn_ hvc_; rw [hva_] at ge240_1; rw [hvc_] at ul240_1; have HL240_1 := Aside0.mk (show Kd.V (Kd.int .u8) 5 _ w.heap.size _ _ ((rd_T70 t222 1).f1) from Kd.V_mk ul240_1 ge240_1); clear hva_ hvn_ hvc_ ge240_1 ul240_1; clear hcc240 hce240; (try simp only [show (1 : Int).toNat = 1 from rfl, Nat.reduceMul, Nat.reduceEqDiff, Go.Addr.add, ↓reduceIte] at hx240_0); (try simp only [show (1 : Int).toNat = 1 from rfl, Nat.reduceMul, Nat.reduceEqDiff, Go.Addr.add, ↓reduceIte] at hx240_1); have qi240 : (1 < t222.length) = True := eq_true (by omega); (try rw [show ((1 : Int)).toNat = 1 from rfl] at hx240_0); (try rw [show 1 * 2 = 2 from rfl] at hx240_0); (try rw [show ((1 : Int)).toNat = 1 from rfl] at hx240_1); (try rw [show 1 * 2 = 2 from rfl] at hx240_1); have HR240_1 := Aside0.mk hi240_1; have HC240_1 := Aside0.mk hl240_1; clear hi240_1 hl240_1; replace p240 := eq_true p240; replace q240 := eq_true q240))
              go_ret
              exact ⟨by first | rfl | (simp [errW_none, errW_some] <;> rfl) | (simp [*, errW_none, errW_some] <;> rfl), by repeat (first | (with_reducible first | exact HB.out | apply below_alloc | apply pw_below_drewN | apply below_drew1) | exact HB.out)⟩
          · rw [if_neg c27] at H
            exact absurd H (by simp)
        · rw [if_neg c26] at H
          have c26b0 : ((t222.length : Int) == 2) = false := beq_eq_false_iff_ne.mpr c26
          have c26b1 : ((t222.length : Int) != 2) = true := bne_iff_ne.mpr c26
          obtain rfl := Option.some.inj H
          obtain ⟨Ao65, co65, eo65⟩ := Kd.N_slice HO235.out
          subst eo65
          go_wp2_with (first | (go_at_call 25; (with_reducible refine (tlv_Write.calls k (fun k_ => (some k_ ≠ (.slice Ao12 y211.length co12 : Value).ownBlock ∧ (some k_ ≠ (v215 : Value).ownBlock ∧ (some k_ ≠ (.slice Ao17 t222.length co17 : Value).ownBlock ∧ some k_ ≠ (v228 : Value).ownBlock)))) _ _ y233 t236 t239 _ ?side1 A5.out).mono ?_); (case side1 => exact Kd.N_V (HO235.out)); rintro e w66 ⟨v237, rfl, ho0, hb⟩; have n0_ := Aside0.mk (Kd.N_elder' (by (with_reducible repeat (first | apply Kd.N_alloc | apply Kd.N_drewN | apply Kd.N_drew)); exact HO213.out) (Kd.R_base ho0) hb); have n1_ := Aside0.mk (Kd.R_elder' (by (with_reducible repeat (first | apply Kd.R_alloc | apply Kd.R_drewN | apply Kd.R_drew)); exact HO216.out) (Kd.R_base ho0) hb); have n2_ := Aside0.mk (Kd.V_elder' (by (with_reducible repeat (first | apply Kd.V_alloc | apply Kd.V_drewN | apply Kd.V_drew)); exact HO218.out) (Kd.R_base ho0) hb); have n3_ := Aside0.mk (Kd.N_elder' (by (with_reducible repeat (first | apply Kd.N_alloc | apply Kd.N_drewN | apply Kd.N_drew)); exact HO224.out) (Kd.R_base ho0) hb); have n4_ := Aside0.mk (Kd.R_elder' (by (with_reducible repeat (first | apply Kd.R_alloc | apply Kd.R_drewN | apply Kd.R_drew)); exact HO229.out) (Kd.R_base ho0) hb); have n5_ := Aside0.mk (Kd.N_elder' (by (with_reducible repeat (first | apply Kd.N_alloc | apply Kd.N_drewN | apply Kd.N_drew)); exact HO235.out) (Kd.R_base ho0) hb); have n6_ := Aside0.mk (Kd.R_lower (Kd.R_new' (Kd.R_new' (Kd.R_mono (ok' := fun k_ => True) ho0 (fun _ hk_ => trivial)) (Kd.R_lt (by (with_reducible repeat (first | apply Kd.R_alloc | apply Kd.R_drewN | apply Kd.R_drew)); exact HO216.out))) (Kd.R_lt (by (with_reducible repeat (first | apply Kd.R_alloc | apply Kd.R_drewN | apply Kd.R_drew)); exact HO229.out))) (below_size (by repeat (first | (with_reducible first | exact HB.out | apply below_alloc | apply pw_below_drewN | apply below_drew1) | exact HB.out)))); have n7_ := Aside0.mk (below_step (by repeat (first | (with_reducible first | exact HB.out | apply below_alloc | apply pw_below_drewN | apply below_drew1) | exact HB.out)) hb); clear HO213; clear HO216; clear HO218; clear HO224; clear HO229; clear HO235; clear HB; have HO213 := n0_; have HO216 := n1_; have HO218 := n2_; have HO224 := n3_; have HO229 := n4_; have HO235 := n5_; have HO238 := n6_; have HB := n7_; clear n0_ n1_ n2_ n3_ n4_ n5_ n6_ n7_; (try clear hb); (try clear hb2); (try clear hk); (try clear hi); (try clear ho0); (try clear A5); have hcv67 := own_string (P := Try.prog) Try.underlying25 Try.underlying5 Try.underlying9 (Kd.own_of_R HO216.out)))
          go_ret
          exact ⟨by first | rfl | (simp [errW_none, errW_some] <;> rfl) | (simp [*, errW_none, errW_some] <;> rfl), by repeat (first | (with_reducible first | exact HB.out | apply below_alloc | apply pw_below_drewN | apply below_drew1) | exact HB.out)⟩
      · rw [if_neg c25] at H
        have c25b0 : (t217 == 0) = false := beq_eq_false_iff_ne.mpr c25
        have c25b1 : (t217 != 0) = true := bne_iff_ne.mpr c25
        obtain rfl := Option.some.inj H
        obtain ⟨Ao68, co68, eo68⟩ := Kd.N_slice HO235.out
        subst eo68
        go_wp2_with (first | (go_at_call 25; (with_reducible refine (tlv_Write.calls k (fun k_ => (some k_ ≠ (.slice Ao12 y211.length co12 : Value).ownBlock ∧ (some k_ ≠ (v215 : Value).ownBlock ∧ (some k_ ≠ (.slice Ao17 t222.length co17 : Value).ownBlock ∧ some k_ ≠ (v228 : Value).ownBlock)))) _ _ y233 t236 t239 _ ?side1 A5.out).mono ?_); (case side1 => exact Kd.N_V (HO235.out)); rintro e w69 ⟨v237, rfl, ho0, hb⟩; have n0_ := Aside0.mk (Kd.N_elder' (by (with_reducible repeat (first | apply Kd.N_alloc | apply Kd.N_drewN | apply Kd.N_drew)); exact HO213.out) (Kd.R_base ho0) hb); have n1_ := Aside0.mk (Kd.R_elder' (by (with_reducible repeat (first | apply Kd.R_alloc | apply Kd.R_drewN | apply Kd.R_drew)); exact HO216.out) (Kd.R_base ho0) hb); have n2_ := Aside0.mk (Kd.V_elder' (by (with_reducible repeat (first | apply Kd.V_alloc | apply Kd.V_drewN | apply Kd.V_drew)); exact HO218.out) (Kd.R_base ho0) hb); have n3_ := Aside0.mk (Kd.N_elder' (by (with_reducible repeat (first | apply Kd.N_alloc | apply Kd.N_drewN | apply Kd.N_drew)); exact HO224.out) (Kd.R_base ho0) hb); have n4_ := Aside0.mk (Kd.R_elder' (by (with_reducible repeat (first | apply Kd.R_alloc | apply Kd.R_drewN | apply Kd.R_drew)); exact HO229.out) (Kd.R_base ho0) hb); have n5_ := Aside0.mk (Kd.N_elder' (by (with_reducible repeat (first | apply Kd.N_alloc | apply Kd.N_drewN | apply Kd.N_drew)); exact HO235.out) (Kd.R_base ho0) hb); have n6_ := Aside0.mk (Kd.R_lower (Kd.R_new' (Kd.R_new' (Kd.R_mono (ok' := fun k_ => True) ho0 (fun _ hk_ => trivial)) (Kd.R_lt (by (with_reducible repeat (first | apply Kd.R_alloc | apply Kd.R_drewN | apply Kd.R_drew)); exact HO216.out))) (Kd.R_lt (by (with_reducible repeat (first | apply Kd.R_alloc | apply Kd.R_drewN | apply Kd.R_drew)); exact HO229.out))) (below_size (by repeat (first | (with_reducible first | exact HB.out | apply below_alloc | apply pw_below_drewN | apply below_drew1) | exact HB.out)))); have n7_ := Aside0.mk (below_step (by repeat (first | (with_reducible first | exact HB.out | apply below_alloc | apply pw_below_drewN | apply below_drew1) | exact HB.out)) hb); clear HO213; clear HO216; clear HO218; clear HO224; clear HO229; clear HO235; clear HB; have HO213 := n0_; have HO216 := n1_; have HO218 := n2_; have HO224 := n3_; have HO229 := n4_; have HO235 := n5_; have HO238 := n6_; have HB := n7_; clear n0_ n1_ n2_ n3_ n4_ n5_ n6_ n7_; (try clear hb); (try clear hb2); (try clear hk); (try clear hi); (try clear ho0); (try clear A5); have hcv70 := own_string (P := Try.prog) Try.underlying25 Try.underlying5 Try.underlying9 (Kd.own_of_R HO216.out)))
        go_ret
        exact ⟨by first | rfl | (simp [errW_none, errW_some] <;> rfl) | (simp [*, errW_none, errW_some] <;> rfl), by repeat (first | (with_reducible first | exact HB.out | apply below_alloc | apply pw_below_drewN | apply below_drew1) | exact HB.out)⟩
    · rw [if_neg c24] at H
      have c24b0 : ((strOfNums t214).toList == ([53, 1, 1, 12, 0, 255] : List UInt8)) = false := beq_eq_false_iff_ne.mpr c24
      have c24b1 : ((strOfNums t214).toList != ([53, 1, 1, 12, 0, 255] : List UInt8)) = true := bne_iff_ne.mpr c24
      obtain rfl := Option.some.inj H
      obtain ⟨Ao71, co71, eo71⟩ := Kd.N_slice HO235.out
      subst eo71
      go_wp2_with (first | (go_at_call 25; (with_reducible refine (tlv_Write.calls k (fun k_ => (some k_ ≠ (.slice Ao12 y211.length co12 : Value).ownBlock ∧ (some k_ ≠ (v215 : Value).ownBlock ∧ (some k_ ≠ (.slice Ao17 t222.length co17 : Value).ownBlock ∧ some k_ ≠ (v228 : Value).ownBlock)))) _ _ y233 t236 t239 _ ?side1 A5.out).mono ?_); (case side1 => exact Kd.N_V (HO235.out)); rintro e w72 ⟨v237, rfl, ho0, hb⟩; have n0_ := Aside0.mk (Kd.N_elder' (by (with_reducible repeat (first | apply Kd.N_alloc | apply Kd.N_drewN | apply Kd.N_drew)); exact HO213.out) (Kd.R_base ho0) hb); have n1_ := Aside0.mk (Kd.R_elder' (by (with_reducible repeat (first | apply Kd.R_alloc | apply Kd.R_drewN | apply Kd.R_drew)); exact HO216.out) (Kd.R_base ho0) hb); have n2_ := Aside0.mk (Kd.V_elder' (by (with_reducible repeat (first | apply Kd.V_alloc | apply Kd.V_drewN | apply Kd.V_drew)); exact HO218.out) (Kd.R_base ho0) hb); have n3_ := Aside0.mk (Kd.N_elder' (by (with_reducible repeat (first | apply Kd.N_alloc | apply Kd.N_drewN | apply Kd.N_drew)); exact HO224.out) (Kd.R_base ho0) hb); have n4_ := Aside0.mk (Kd.R_elder' (by (with_reducible repeat (first | apply Kd.R_alloc | apply Kd.R_drewN | apply Kd.R_drew)); exact HO229.out) (Kd.R_base ho0) hb); have n5_ := Aside0.mk (Kd.N_elder' (by (with_reducible repeat (first | apply Kd.N_alloc | apply Kd.N_drewN | apply Kd.N_drew)); exact HO235.out) (Kd.R_base ho0) hb); have n6_ := Aside0.mk (Kd.R_lower (Kd.R_new' (Kd.R_new' (Kd.R_mono (ok' := fun k_ => True) ho0 (fun _ hk_ => trivial)) (Kd.R_lt (by (with_reducible repeat (first | apply Kd.R_alloc | apply Kd.R_drewN | apply Kd.R_drew)); exact HO216.out))) (Kd.R_lt (by (with_reducible repeat (first | apply Kd.R_alloc | apply Kd.R_drewN | apply Kd.R_drew)); exact HO229.out))) (below_size (by repeat (first | (with_reducible first | exact HB.out | apply below_alloc | apply pw_below_drewN | apply below_drew1) | exact HB.out)))); have n7_ := Aside0.mk (below_step (by repeat (first | (with_reducible first | exact HB.out | apply below_alloc | apply pw_below_drewN | apply below_drew1) | exact HB.out)) hb); clear HO213; clear HO216; clear HO218; clear HO224; clear HO229; clear HO235; clear HB; have HO213 := n0_; have HO216 := n1_; have HO218 := n2_; have HO224 := n3_; have HO229 := n4_; have HO235 := n5_; have HO238 := n6_; have HB := n7_; clear n0_ n1_ n2_ n3_ n4_ n5_ n6_ n7_; (try clear hb); (try clear hb2); (try clear hk); (try clear hi); (try clear ho0); (try clear A5); have hcv73 := own_string (P := Try.prog) Try.underlying25 Try.underlying5 Try.underlying9 (Kd.own_of_R HO216.out)))
      go_ret
      exact ⟨by first | rfl | (simp [errW_none, errW_some] <;> rfl) | (simp [*, errW_none, errW_some] <;> rfl), by repeat (first | (with_reducible first | exact HB.out | apply below_alloc | apply pw_below_drewN | apply below_drew1) | exact HB.out)⟩
  · rw [if_neg c4] at H
    exact absurd H (by simp)

/-! ### boarderref03_Same: function 29 -/
def boarderref03_Same.l0 : Nat → List (S70) → List (S70) → Int → Option (Bool)
  | 0, _, _, _ => none
  | k + 1, x0, x1, x5 => if x5 < (x0.length : Int) then (if 0 ≤ x5 then (if x5 < (x1.length : Int) then (if ((rd_T70 x0 x5).f0) = ((rd_T70 x1 x5).f0) then (if (strOfNums ((rd_T70 x0 x5).f1)).toList = (strOfNums ((rd_T70 x1 x5).f1)).toList then (boarderref03_Same.l0 k x0 x1 (wrap64 (x5 + 1))) else (some false)) else (some false)) else (none)) else (none)) else (some true)
def boarderref03_Same.f (k : Nat) (l0 : List (S70)) (l1 : List (S70)) : Option (Bool) := if (l0.length : Int) = (l1.length : Int) then (boarderref03_Same.l0 k l0 l1 0) else (some false)
theorem boarderref03_Same.mono_l : ∀ k, (∀ y0 y1 y2, LeO (boarderref03_Same.l0 k y0 y1 y2) (boarderref03_Same.l0 (k + 1) y0 y1 y2))
  | 0 => fun _ _ _ r h => by simp [boarderref03_Same.l0] at h
  | k + 1 => by
    have ih0 := boarderref03_Same.mono_l k
    · intro y0 y1 y2
      unfold boarderref03_Same.l0
      repeat' first
      | (with_reducible exact ih0 _ _ _)
      | (with_reducible exact LeO.refl _)
      | (with_reducible exact LeO.none _)
      | (with_reducible refine LeO.ite ?_ ?_)
      | (with_reducible refine LeO.bind ?_ (fun _ => ?_))
      | exact ih0 _ _ _
      | exact LeO.none _
      | refine LeO.ite ?_ ?_
      | refine LeO.bind ?_ (fun _ => ?_)
theorem boarderref03_Same.mono : ∀ a0 a1 k, LeO (boarderref03_Same.f k a0 a1) (boarderref03_Same.f (k + 1) a0 a1) := by
  intro a0 a1 k
  have ih0 := boarderref03_Same.mono_l k
  unfold boarderref03_Same.f
  repeat' first
      | (with_reducible exact ih0 _ _ _)
      | (with_reducible exact LeO.refl _)
      | (with_reducible exact LeO.none _)
      | (with_reducible refine LeO.ite ?_ ?_)
      | (with_reducible refine LeO.bind ?_ (fun _ => ?_))
      | exact ih0 _ _ _
      | exact LeO.none _
      | refine LeO.ite ?_ ?_
      | refine LeO.bind ?_ (fun _ => ?_)
set_option maxHeartbeats 8000000 in
set_option maxRecDepth 100000 in
theorem boarderref03_Same.calls (k : Nat) (A0 : Option Addr) (c0 : Nat) (l0 : List (S70)) (A1 : Option Addr) (c1 : Nat) (l1 : List (S70)) (r : Bool) (w : World) (hr0 : Kd.C k70 w A0 l0.length l0) (hc0 : l0.length ≤ c0) (hr1 : Kd.C k70 w A1 l1.length l1) (hc1 : l1.length ≤ c1) (h : boarderref03_Same.f k l0 l1 = some r) :
    Calls Try.prog 29 #[.slice A0 l0.length c0, .slice A1 l1.length c1] w fun e w' => e = .returned (.bool r) ∧ Drawn0 w w' := by
  have HR0 := Aside0.mk hr0
  have HC0 := Aside0.mk hc0
  clear hr0 hc0
  have HR1 := Aside0.mk hr1
  have HC1 := Aside0.mk hc1
  clear hr1 hc1
  have H : (if (l0.length : Int) = (l1.length : Int) then (boarderref03_Same.l0 k l0 l1 0) else (some false)) = some r := h
  clear h
  by_cases c3 : (l0.length : Int) = (l1.length : Int)
  · rw [if_pos c3] at H
    have c3b0 : ((l0.length : Int) == (l1.length : Int)) = true := beq_iff_eq.mpr c3
    have c3b1 : ((l0.length : Int) != (l1.length : Int)) = false := bne_eq_false_iff_eq.mpr c3
    have c3b2 : (l0.length == l1.length) = true := by first | simpa using c3 | (simp at c3 ⊢; omega)
    clear c3
    have H' := Aside0.mk H
    clear H
    go_enter Try.func29, Try.ntmps29
    go_wp2
    repeat (go_quiet (fail); try go_wp2)
    go_loopg [5] k (fun kq v5 w' => ∃ (x5_1 : Int), v5 = .int .i64 x5_1 ∧ Aside0 (boarderref03_Same.l0 kq l0 l1 x5_1 = some r) ∧ Aside0 (kq ≤ k) ∧ Drawn0 w w')
    case atStart => exact ⟨(0), (by first | rfl | (simp; done) | (simp [*]; done)), H', ⟨Nat.le_refl _⟩, by repeat (first | exact Drawn0.refl _ | apply Drawn0.step)⟩
    case round =>
      clear H'
      try clear c1
      try clear c2
      try clear p2
      try clear c3
      try clear c3b0
      try clear c3b1
      try clear c3b2
      obtain ⟨x5_1, rfl, HA, HK1, ⟨m1, rfl⟩⟩ := hrel
      cases gk with
      | zero => exact absurd HA.out (by simp [boarderref03_Same.l0])
      | succ k1 =>
        have H := HA.out
        clear HA
        simp only [boarderref03_Same.l0] at H
        by_cases c4 : x5_1 < (l0.length : Int)
        · rw [if_pos c4] at H
          have c4b0 : decide (x5_1 < (l0.length : Int)) = true := decide_eq_true c4
          clear c4
          by_cases c5 : 0 ≤ x5_1
          · rw [if_pos c5] at H
            have c5b0 : decide (0 ≤ x5_1) = true := decide_eq_true c5
            clear c5
            by_cases c6 : x5_1 < (l1.length : Int)
            · rw [if_pos c6] at H
              have c6b0 : decide (x5_1 < (l1.length : Int)) = true := decide_eq_true c6
              clear c6
              by_cases c7 : ((rd_T70 l0 x5_1).f0) = ((rd_T70 l1 x5_1).f0)
              · rw [if_pos c7] at H
                have c7b0 : (((rd_T70 l0 x5_1).f0) == ((rd_T70 l1 x5_1).f0)) = true := beq_iff_eq.mpr c7
                have c7b1 : (((rd_T70 l0 x5_1).f0) != ((rd_T70 l1 x5_1).f0)) = false := bne_eq_false_iff_eq.mpr c7
                clear c7
                by_cases c8 : (strOfNums ((rd_T70 l0 x5_1).f1)).toList = (strOfNums ((rd_T70 l1 x5_1).f1)).toList
                · rw [if_pos c8] at H
                  have c8b0 : ((strOfNums ((rd_T70 l0 x5_1).f1)).toList == (strOfNums ((rd_T70 l1 x5_1).f1)).toList) = true := beq_iff_eq.mpr c8
                  have c8b1 : ((strOfNums ((rd_T70 l0 x5_1).f1)).toList != (strOfNums ((rd_T70 l1 x5_1).f1)).toList) = false := bne_eq_false_iff_eq.mpr c8
                  clear c8
                  have H' := Aside0.mk H
                  clear H
                  have p242 : 0 ≤ (x5_1 : Int) := of_decide_eq_true (by first | (with_reducible assumption) | assumption)
                  have q242 : x5_1 < (l0.length : Int) := of_decide_eq_true (by first | (with_reducible assumption) | assumption)
                  obtain ⟨ad242, A242_1, c242_1, e242, hx242_0, hx242_1, hl242_1, hi242_1⟩ := at_T70 HR0.out x5_1 p242 q242
                  have hz242_1 := hx242_1
                  cases e242
                  have HR242_1 := Aside0.mk hi242_1
                  have HC242_1 := Aside0.mk hl242_1
                  clear hi242_1 hl242_1
                  replace p242 := eq_true p242
                  replace q242 := eq_true q242
                  have p243 : 0 ≤ (x5_1 : Int) := of_decide_eq_true (by first | (with_reducible assumption) | assumption)
                  have q243 : x5_1 < (l1.length : Int) := of_decide_eq_true (by first | (with_reducible assumption) | assumption)
                  obtain ⟨ad243, A243_1, c243_1, e243, hx243_0, hx243_1, hl243_1, hi243_1⟩ := at_T70 HR1.out x5_1 p243 q243
                  have hz243_1 := hx243_1
                  cases e243
                  have HR243_1 := Aside0.mk hi243_1
                  have HC243_1 := Aside0.mk hl243_1
                  clear hi243_1 hl243_1
                  replace p243 := eq_true p243
                  replace q243 := eq_true q243
                  have p244 : 0 ≤ (x5_1 : Int) := of_decide_eq_true (by first | (with_reducible assumption) | assumption)
                  have q244 : x5_1 < (l0.length : Int) := of_decide_eq_true (by first | (with_reducible assumption) | assumption)
                  obtain ⟨ad244, A244_1, c244_1, e244, hx244_0, hx244_1, hl244_1, hi244_1⟩ := at_T70 HR0.out x5_1 p244 q244
                  obtain rfl : ad242 = ad244 := (by injection e244)
                  have HR244_1 := Aside0.mk hi244_1
                  have HC244_1 := Aside0.mk hl244_1
                  clear hi244_1 hl244_1
                  replace p244 := eq_true p244
                  replace q244 := eq_true q244
                  have ea_ := Option.some.inj (hx242_1.symm.trans hx244_1)
                  injection ea_ with ea_ en_ ec_
                  subst ea_
                  subst ec_
                  clear en_
                  have hcv9 := Kd.C_string (P := Try.prog) (A := A242_1) (c := c242_1) Try.underlying25 Try.underlying5 Try.underlying9 HR244_1.out
                  have hcv10 := fun n_ : Nat => Kd.C_string (P := Try.prog) (A := A242_1) (c := c242_1) Try.underlying25 Try.underlying5 Try.underlying9 (Kd.C_drewN HR244_1.out n_)
                  have p245 : 0 ≤ (x5_1 : Int) := of_decide_eq_true (by first | (with_reducible assumption) | assumption)
                  have q245 : x5_1 < (l1.length : Int) := of_decide_eq_true (by first | (with_reducible assumption) | assumption)
                  obtain ⟨ad245, A245_1, c245_1, e245, hx245_0, hx245_1, hl245_1, hi245_1⟩ := at_T70 HR1.out x5_1 p245 q245
                  obtain rfl : ad243 = ad245 := (by injection e245)
                  have HR245_1 := Aside0.mk hi245_1
                  have HC245_1 := Aside0.mk hl245_1
                  clear hi245_1 hl245_1
                  replace p245 := eq_true p245
                  replace q245 := eq_true q245
                  have ea_ := Option.some.inj (hx243_1.symm.trans hx245_1)
                  injection ea_ with ea_ en_ ec_
                  subst ea_
                  subst ec_
                  clear en_
                  have hcv11 := Kd.C_string (P := Try.prog) (A := A243_1) (c := c243_1) Try.underlying25 Try.underlying5 Try.underlying9 HR245_1.out
                  have hcv12 := fun n_ : Nat => Kd.C_string (P := Try.prog) (A := A243_1) (c := c243_1) Try.underlying25 Try.underlying5 Try.underlying9 (Kd.C_drewN HR245_1.out n_)
                  go_wp2
                  repeat (go_quiet (fail); try go_wp2)
                  go_roundg k1
                  case measure => have := HK1.out; omega
                  case rel => exact ⟨(wrap64 (x5_1 + 1)), (by first | rfl | (simp; done) | (simp [*]; done)), H', ⟨by have := HK1.out; omega⟩, by repeat (first | exact Drawn0.refl _ | apply Drawn0.step)⟩
                · rw [if_neg c8] at H
                  have c8b0 : ((strOfNums ((rd_T70 l0 x5_1).f1)).toList == (strOfNums ((rd_T70 l1 x5_1).f1)).toList) = false := beq_eq_false_iff_ne.mpr c8
                  have c8b1 : ((strOfNums ((rd_T70 l0 x5_1).f1)).toList != (strOfNums ((rd_T70 l1 x5_1).f1)).toList) = true := bne_iff_ne.mpr c8
                  obtain rfl := Option.some.inj H
                  have p242 : 0 ≤ (x5_1 : Int) := of_decide_eq_true (by first | (with_reducible assumption) | assumption)
                  have q242 : x5_1 < (l0.length : Int) := of_decide_eq_true (by first | (with_reducible assumption) | assumption)
                  obtain ⟨ad242, A242_1, c242_1, e242, hx242_0, hx242_1, hl242_1, hi242_1⟩ := at_T70 HR0.out x5_1 p242 q242
                  have hz242_1 := hx242_1
                  cases e242
                  have HR242_1 := Aside0.mk hi242_1
                  have HC242_1 := Aside0.mk hl242_1
                  clear hi242_1 hl242_1
                  replace p242 := eq_true p242
                  replace q242 := eq_true q242
                  have p243 : 0 ≤ (x5_1 : Int) := of_decide_eq_true (by first | (with_reducible assumption) | assumption)
                  have q243 : x5_1 < (l1.length : Int) := of_decide_eq_true (by first | (with_reducible assumption) | assumption)
                  obtain ⟨ad243, A243_1, c243_1, e243, hx243_0, hx243_1, hl243_1, hi243_1⟩ := at_T70 HR1.out x5_1 p243 q243
                  have hz243_1 := hx243_1
                  cases e243
                  have HR243_1 := Aside0.mk hi243_1
                  have HC243_1 := Aside0.mk hl243_1
                  clear hi243_1 hl243_1
                  replace p243 := eq_true p243
                  replace q243 := eq_true q243
                  have p244 : 0 ≤ (x5_1 : Int) := of_decide_eq_true (by first | (with_reducible assumption) | assumption)
                  have q244 : x5_1 < (l0.length : Int) := of_decide_eq_true (by first | (with_reducible assumption) | assumption)
                  obtain ⟨ad244, A244_1, c244_1, e244, hx244_0, hx244_1, hl244_1, hi244_1⟩ := at_T70 HR0.out x5_1 p244 q244
                  obtain rfl : ad242 = ad244 := (by injection e244)
                  have HR244_1 := Aside0.mk hi244_1
                  have HC244_1 := Aside0.mk hl244_1
                  clear hi244_1 hl244_1
                  replace p244 := eq_true p244
                  replace q244 := eq_true q244
                  have ea_ := Option.some.inj (hx242_1.symm.trans hx244_1)
                  injection ea_ with ea_ en_ ec_
                  subst ea_
                  subst ec_
                  clear en_
                  have hcv13 := Kd.C_string (P := Try.prog) (A := A242_1) (c := c242_1) Try.underlying25 Try.underlying5 Try.underlying9 HR244_1.out
                  have hcv14 := fun n_ : Nat => Kd.C_string (P := Try.prog) (A := A242_1) (c := c242_1) Try.underlying25 Try.underlying5 Try.underlying9 (Kd.C_drewN HR244_1.out n_)
                  have p245 : 0 ≤ (x5_1 : Int) := of_decide_eq_true (by first | (with_reducible assumption) | assumption)
                  have q245 : x5_1 < (l1.length : Int) := of_decide_eq_true (by first | (with_reducible assumption) | assumption)
                  obtain ⟨ad245, A245_1, c245_1, e245, hx245_0, hx245_1, hl245_1, hi245_1⟩ := at_T70 HR1.out x5_1 p245 q245
                  obtain rfl : ad243 = ad245 := (by injection e245)
                  have HR245_1 := Aside0.mk hi245_1
                  have HC245_1 := Aside0.mk hl245_1
                  clear hi245_1 hl245_1
                  replace p245 := eq_true p245
                  replace q245 := eq_true q245
                  have ea_ := Option.some.inj (hx243_1.symm.trans hx245_1)
                  injection ea_ with ea_ en_ ec_
                  subst ea_
                  subst ec_
                  clear en_
                  have hcv15 := Kd.C_string (P := Try.prog) (A := A243_1) (c := c243_1) Try.underlying25 Try.underlying5 Try.underlying9 HR245_1.out
                  have hcv16 := fun n_ : Nat => Kd.C_string (P := Try.prog) (A := A243_1) (c := c243_1) Try.underlying25 Try.underlying5 Try.underlying9 (Kd.C_drewN HR245_1.out n_)
                  go_wp2
                  repeat (go_quiet (fail); try go_wp2)
                  go_ret
                  exact ⟨by first | rfl | (simp; done) | (simp [*]; done), by repeat (first | exact Drawn0.refl _ | apply Drawn0.step)⟩
              · rw [if_neg c7] at H
                have c7b0 : (((rd_T70 l0 x5_1).f0) == ((rd_T70 l1 x5_1).f0)) = false := beq_eq_false_iff_ne.mpr c7
                have c7b1 : (((rd_T70 l0 x5_1).f0) != ((rd_T70 l1 x5_1).f0)) = true := bne_iff_ne.mpr c7
                obtain rfl := Option.some.inj H
                have p242 : 0 ≤ (x5_1 : Int) := of_decide_eq_true (by first | (with_reducible assumption) | assumption)
                have q242 : x5_1 < (l0.length : Int) := of_decide_eq_true (by first | (with_reducible assumption) | assumption)
                obtain ⟨ad242, A242_1, c242_1, e242, hx242_0, hx242_1, hl242_1, hi242_1⟩ := at_T70 HR0.out x5_1 p242 q242
                have hz242_1 := hx242_1
                cases e242
                have HR242_1 := Aside0.mk hi242_1
                have HC242_1 := Aside0.mk hl242_1
                clear hi242_1 hl242_1
                replace p242 := eq_true p242
                replace q242 := eq_true q242
                have p243 : 0 ≤ (x5_1 : Int) := of_decide_eq_true (by first | (with_reducible assumption) | assumption)
                have q243 : x5_1 < (l1.length : Int) := of_decide_eq_true (by first | (with_reducible assumption) | assumption)
                obtain ⟨ad243, A243_1, c243_1, e243, hx243_0, hx243_1, hl243_1, hi243_1⟩ := at_T70 HR1.out x5_1 p243 q243
                have hz243_1 := hx243_1
                cases e243
                have HR243_1 := Aside0.mk hi243_1
                have HC243_1 := Aside0.mk hl243_1
                clear hi243_1 hl243_1
                replace p243 := eq_true p243
                replace q243 := eq_true q243
                go_wp2
                repeat (go_quiet (fail); try go_wp2)
                go_ret
                exact ⟨by first | rfl | (simp; done) | (simp [*]; done), by repeat (first | exact Drawn0.refl _ | apply Drawn0.step)⟩
            · rw [if_neg c6] at H
              exact absurd H (by simp)
          · rw [if_neg c5] at H
            exact absurd H (by simp)
        · rw [if_neg c4] at H
          have c4b0 : decide (x5_1 < (l0.length : Int)) = false := decide_eq_false c4
          clear c4
          obtain rfl := Option.some.inj H
          go_wp2
          repeat (go_quiet (fail); try go_wp2)
          go_ret
          exact ⟨by first | rfl | (simp; done) | (simp [*]; done), by repeat (first | exact Drawn0.refl _ | apply Drawn0.step)⟩
  · rw [if_neg c3] at H
    have c3b0 : ((l0.length : Int) == (l1.length : Int)) = false := beq_eq_false_iff_ne.mpr c3
    have c3b1 : ((l0.length : Int) != (l1.length : Int)) = true := bne_iff_ne.mpr c3
    have c3b2 : (l0.length == l1.length) = false := by first | simpa using c3 | (simp at c3 ⊢; omega)
    obtain rfl := Option.some.inj H
    go_enter Try.func29, Try.ntmps29
    go_wp2
    repeat (go_quiet (fail); try go_wp2)
    go_ret
    exact ⟨by first | rfl | (simp; done) | (simp [*]; done), by repeat (first | exact Drawn0.refl _ | apply Drawn0.step)⟩

/-! ### tlv_Join: function 41 -/
mutual
def tlv_Join.j0 : Nat → List (S70) → List (S70) → Bool → Option ((List (S70)) × Int)
  | 0, _, _, _ => none
  | k + 1, x0, x1, x18 => if x18 = true then (some (([] : List (S70)), 1)) else ((some (([x0, x1] : List (List (S70))) : List (List (S70)))).bind fun y248 => (tlv_Join.l0 k ([] : List (S70)) y248 (y248.length : Int) 0))
def tlv_Join.l0 : Nat → List (S70) → List (List (S70)) → Int → Int → Option ((List (S70)) × Int)
  | 0, _, _, _, _ => none
  | k + 1, x6, x21, x22, x23 => if x23 < x22 then (if 0 ≤ x23 then (if x23 < (x21.length : Int) then (tlv_Join.l1 k x6 x21 x22 x23 (rd_L4 x21 x23) ((rd_L4 x21 x23).length : Int) 0) else (none)) else (none)) else ((tlv_Right.f k x6).bind fun t251 => (if t251 = true then (some (x6, 0)) else (some (([] : List (S70)), 3))))
def tlv_Join.l1 : Nat → List (S70) → List (List (S70)) → Int → Int → List (S70) → Int → Int → Option ((List (S70)) × Int)
  | 0, _, _, _, _, _, _, _ => none
  | k + 1, x6, x21, x22, x23, x27, x28, x29 => if x29 < x28 then (if 0 ≤ x29 then (if x29 < (x27.length : Int) then ((tlv_join.f k x6 ((rd_T70 x27 x29).f0) ((rd_T70 x27 x29).f1)).bind fun t255 => (tlv_Join.l1 k t255 x21 x22 x23 x27 x28 (wrap64 (x29 + 1)))) else (none)) else (none)) else (tlv_Join.l0 k x6 x21 x22 (wrap64 (x23 + 1)))
end
def tlv_Join.f (k : Nat) (l0 : List (S70)) (l1 : List (S70)) : Option ((List (S70)) × Int) := (tlv_Right.f k l0).bind fun t246 => (if t246 = true then ((tlv_Right.f k l1).bind fun t247 => (tlv_Join.j0 k l0 l1 (!t247))) else (tlv_Join.j0 k l0 l1 true))
theorem tlv_Join.mono_l : ∀ k, (∀ y0 y1 y2, LeO (tlv_Join.j0 k y0 y1 y2) (tlv_Join.j0 (k + 1) y0 y1 y2)) ∧ (∀ y0 y1 y2 y3, LeO (tlv_Join.l0 k y0 y1 y2 y3) (tlv_Join.l0 (k + 1) y0 y1 y2 y3)) ∧ (∀ y0 y1 y2 y3 y4 y5 y6, LeO (tlv_Join.l1 k y0 y1 y2 y3 y4 y5 y6) (tlv_Join.l1 (k + 1) y0 y1 y2 y3 y4 y5 y6))
  | 0 => ⟨fun _ _ _ r h => by simp [tlv_Join.j0] at h, fun _ _ _ _ r h => by simp [tlv_Join.l0] at h, fun _ _ _ _ _ _ _ r h => by simp [tlv_Join.l1] at h⟩
  | k + 1 => by
    obtain ⟨ih0, ih1, ih2⟩ := tlv_Join.mono_l k
    refine ⟨?_, ?_, ?_⟩
    · intro y0 y1 y2
      unfold tlv_Join.j0
      repeat' first
      | (with_reducible exact ih0 _ _ _)
      | (with_reducible exact ih1 _ _ _ _)
      | (with_reducible exact ih2 _ _ _ _ _ _ _)
      | (with_reducible exact tlv_Right.mono _ _)
      | (with_reducible exact tlv_join.mono _ _ _ _)
      | (with_reducible exact LeO.refl _)
      | (with_reducible exact LeO.none _)
      | (with_reducible refine LeO.ite ?_ ?_)
      | (with_reducible refine LeO.bind ?_ (fun _ => ?_))
      | exact ih0 _ _ _
      | exact ih1 _ _ _ _
      | exact ih2 _ _ _ _ _ _ _
      | exact tlv_Right.mono _ _
      | exact tlv_join.mono _ _ _ _
      | exact LeO.none _
      | refine LeO.ite ?_ ?_
      | refine LeO.bind ?_ (fun _ => ?_)
    · intro y0 y1 y2 y3
      unfold tlv_Join.l0
      repeat' first
      | (with_reducible exact ih0 _ _ _)
      | (with_reducible exact ih1 _ _ _ _)
      | (with_reducible exact ih2 _ _ _ _ _ _ _)
      | (with_reducible exact tlv_Right.mono _ _)
      | (with_reducible exact tlv_join.mono _ _ _ _)
      | (with_reducible exact LeO.refl _)
      | (with_reducible exact LeO.none _)
      | (with_reducible refine LeO.ite ?_ ?_)
      | (with_reducible refine LeO.bind ?_ (fun _ => ?_))
      | exact ih0 _ _ _
      | exact ih1 _ _ _ _
      | exact ih2 _ _ _ _ _ _ _
      | exact tlv_Right.mono _ _
      | exact tlv_join.mono _ _ _ _
      | exact LeO.none _
      | refine LeO.ite ?_ ?_
      | refine LeO.bind ?_ (fun _ => ?_)
    · intro y0 y1 y2 y3 y4 y5 y6
      unfold tlv_Join.l1
      repeat' first
      | (with_reducible exact ih0 _ _ _)
      | (with_reducible exact ih1 _ _ _ _)
      | (with_reducible exact ih2 _ _ _ _ _ _ _)
      | (with_reducible exact tlv_Right.mono _ _)
      | (with_reducible exact tlv_join.mono _ _ _ _)
      | (with_reducible exact LeO.refl _)
      | (with_reducible exact LeO.none _)
      | (with_reducible refine LeO.ite ?_ ?_)
      | (with_reducible refine LeO.bind ?_ (fun _ => ?_))
      | exact ih0 _ _ _
      | exact ih1 _ _ _ _
      | exact ih2 _ _ _ _ _ _ _
      | exact tlv_Right.mono _ _
      | exact tlv_join.mono _ _ _ _
      | exact LeO.none _
      | refine LeO.ite ?_ ?_
      | refine LeO.bind ?_ (fun _ => ?_)
theorem tlv_Join.mono : ∀ a0 a1 k, LeO (tlv_Join.f k a0 a1) (tlv_Join.f (k + 1) a0 a1) := by
  intro a0 a1 k
  obtain ⟨ih0, ih1, ih2⟩ := tlv_Join.mono_l k
  unfold tlv_Join.f
  repeat' first
      | (with_reducible exact ih0 _ _ _)
      | (with_reducible exact ih1 _ _ _ _)
      | (with_reducible exact ih2 _ _ _ _ _ _ _)
      | (with_reducible exact tlv_Right.mono _ _)
      | (with_reducible exact tlv_join.mono _ _ _ _)
      | (with_reducible exact LeO.refl _)
      | (with_reducible exact LeO.none _)
      | (with_reducible refine LeO.ite ?_ ?_)
      | (with_reducible refine LeO.bind ?_ (fun _ => ?_))
      | exact ih0 _ _ _
      | exact ih1 _ _ _ _
      | exact ih2 _ _ _ _ _ _ _
      | exact tlv_Right.mono _ _
      | exact tlv_join.mono _ _ _ _
      | exact LeO.none _
      | refine LeO.ite ?_ ?_
      | refine LeO.bind ?_ (fun _ => ?_)
set_option maxHeartbeats 8000000 in
set_option maxRecDepth 100000 in
theorem tlv_Join.calls (k : Nat) (P0_ : Nat → Prop) (A0 : Option Addr) (c0 : Nat) (l0 : List (S70)) (P1_ : Nat → Prop) (A1 : Option Addr) (c1 : Nat) (l1 : List (S70)) (r1 : List (S70)) (r2 : Int) (w : World) (hs0 : Kd.V k70 70 w w.heap.size (fun k_ => P0_ k_) (.slice A0 l0.length c0) l0) (hs1 : Kd.V k70 70 w w.heap.size (fun k_ => P1_ k_) (.slice A1 l1.length c1) l1) (h : tlv_Join.f k l0 l1 = some (r1, r2)) :
    Calls Try.prog 41 #[.slice A0 l0.length c0, .slice A1 l1.length c1] w fun e w' => ∃ v0_ : Value, e = .returned (.tuple #[v0_, .int .i64 r2]) ∧ Kd.N k70 70 w' w.heap.size (fun k_ => ((P0_ k_ ∨ P1_ k_) ∨ w.heap.size ≤ k_)) v0_ r1 ∧ Below w.heap.size w w' := by
  have hu70 := Try.underlying70
  have HO0 := Aside0.mk (show Kd.V k70 70 w w.heap.size (fun k_ => ((P0_ k_ ∨ P1_ k_) ∨ w.heap.size ≤ k_)) (.slice A0 l0.length c0) l0 from Kd.V_mono hs0 (fun k_ hk => .inl (.inl hk)))
  have HO1 := Aside0.mk (show Kd.V k70 70 w w.heap.size (fun k_ => ((P0_ k_ ∨ P1_ k_) ∨ w.heap.size ≤ k_)) (.slice A1 l1.length c1) l1 from Kd.V_mono hs1 (fun k_ hk => .inl (.inr hk)))
  have HB := Aside0.mk (Below.refl w.heap.size w)
  have H : ((tlv_Right.f k l0).bind fun t246 => (if t246 = true then ((tlv_Right.f k l1).bind fun t247 => (tlv_Join.j0 k l0 l1 (!t247))) else (tlv_Join.j0 k l0 l1 true))) = some (r1, r2) := h
  clear h
  have HC3 := Aside0.mk H
  clear H
  go_enter Try.func41, Try.ntmps41
  go_upto_region 1 with (fail)
  go_cut [18] (fun v18 wc => ∃ (kq : Nat) (x18_2 : Bool), v18 = .bool x18_2 ∧ Aside0 (tlv_Join.j0 kq l0 l1 x18_2 = some (r1, r2)) ∧ Aside0 (kq ≤ k) ∧ Aside0 (Kd.V k70 70 wc w.heap.size (fun k_ => ((P0_ k_ ∨ P1_ k_) ∨ w.heap.size ≤ k_)) (.slice A0 l0.length c0) l0) ∧ Aside0 (Kd.V k70 70 wc w.heap.size (fun k_ => ((P0_ k_ ∨ P1_ k_) ∨ w.heap.size ≤ k_)) (.slice A1 l1.length c1) l1) ∧ Aside0 (Below w.heap.size w wc))
  case first =>
    have H := HC3.out
    clear HC3
    replace H := Option.bind_eq_some_iff.mp H
    obtain ⟨t246, A40, H⟩ := H
    replace H : (if t246 = true then ((tlv_Right.f k l1).bind fun t247 => (tlv_Join.j0 k l0 l1 (!t247))) else (tlv_Join.j0 k l0 l1 true)) = some (r1, r2) := H
    have A4 := Aside0.mk A40
    clear A40
    by_cases c5 : t246 = true
    · subst c5
      have H1 : ((tlv_Right.f k l1).bind fun t247 => (tlv_Join.j0 k l0 l1 (!t247))) = some (r1, r2) := by rw [if_pos rfl] at H; exact H
      clear H
      have H := H1
      clear H1
      replace H := Option.bind_eq_some_iff.mp H
      obtain ⟨t247, A60, H⟩ := H
      replace H : (tlv_Join.j0 k l0 l1 (!t247)) = some (r1, r2) := H
      have A6 := Aside0.mk A60
      clear A60
      have H' := Aside0.mk H
      clear H
      go_wp2_with (first | ((with_reducible refine gate_callee (f := 23) rfl ?_); refine goesL_ (some 12) rfl rfl Try.func23 (by kernel_rfl) rfl #[.slice A0 l0.length c0] rfl (by (try simp only [List.map_toArray, List.map_cons, List.map_nil]); first | done | rfl | (simp only [List.length_drop, List.length_take]; rfl)) ?_; (with_reducible refine (tlv_Right.calls k _ _ l0 true _ ?side1 ?side2 A4.out).mono ?_); (case side1 => repeat (first | exact (Kd.V_reads' HO0.out).2.2 | (with_reducible refine Kd.C_alloc ?_ _) | (with_reducible refine Kd.C_drewN ?_ _) | (with_reducible refine Kd.C_drew ?_))); (case side2 => exact (Kd.V_reads' HO0.out).2.1); rintro e w7 ⟨rfl, hb⟩; refine ⟨_, rfl, ?_⟩; have n0_ := Aside0.mk (Kd.V_below (by (with_reducible repeat (first | apply Kd.V_alloc | apply Kd.V_drewN | apply Kd.V_drew)); exact HO0.out) hb); have n1_ := Aside0.mk (Kd.V_below (by (with_reducible repeat (first | apply Kd.V_alloc | apply Kd.V_drewN | apply Kd.V_drew)); exact HO1.out) hb); have n2_ := Aside0.mk (below_step (by repeat (first | (with_reducible first | exact HB.out | apply below_alloc | apply pw_below_drewN | apply below_drew1) | exact HB.out)) hb); clear HO0; clear HO1; clear HB; have HO0 := n0_; have HO1 := n1_; have HB := n2_; clear n0_ n1_ n2_; (try clear hb); (try clear hb2); (try clear hk); (try clear hi)) | (go_at_call 23; (with_reducible refine (tlv_Right.calls k _ _ l1 t247 _ ?side1 ?side2 A6.out).mono ?_); (case side1 => repeat (first | exact (Kd.V_reads' HO1.out).2.2 | (with_reducible refine Kd.C_alloc ?_ _) | (with_reducible refine Kd.C_drewN ?_ _) | (with_reducible refine Kd.C_drew ?_))); (case side2 => exact (Kd.V_reads' HO1.out).2.1); rintro e w8 ⟨rfl, hb⟩; have n0_ := Aside0.mk (Kd.V_below (by (with_reducible repeat (first | apply Kd.V_alloc | apply Kd.V_drewN | apply Kd.V_drew)); exact HO0.out) hb); have n1_ := Aside0.mk (Kd.V_below (by (with_reducible repeat (first | apply Kd.V_alloc | apply Kd.V_drewN | apply Kd.V_drew)); exact HO1.out) hb); have n2_ := Aside0.mk (below_step (by repeat (first | (with_reducible first | exact HB.out | apply below_alloc | apply pw_below_drewN | apply below_drew1) | exact HB.out)) hb); clear HO0; clear HO1; clear HB; have HO0 := n0_; have HO1 := n1_; have HB := n2_; clear n0_ n1_ n2_; (try clear hb); (try clear hb2); (try clear hk); (try clear hi)))
      go_meet
      case rel => exact ⟨_, (!t247), (by first | rfl | (simp; done) | (simp [*]; done)), H', ⟨by first | omega | exact Nat.le_refl _⟩, ⟨by (with_reducible repeat (first | apply Kd.V_alloc | apply Kd.V_drewN | apply Kd.V_drew)); exact HO0.out⟩, ⟨by (with_reducible repeat (first | apply Kd.V_alloc | apply Kd.V_drewN | apply Kd.V_drew)); exact HO1.out⟩, ⟨by repeat (first | (with_reducible first | exact HB.out | apply below_alloc | apply pw_below_drewN | apply below_drew1) | exact HB.out)⟩⟩
    · replace c5 := Bool.eq_false_iff.mpr c5
      subst c5
      have H1 : (tlv_Join.j0 k l0 l1 true) = some (r1, r2) := by rw [if_neg (show ¬ (false = true) by decide)] at H; exact H
      clear H
      have H := H1
      clear H1
      have H' := Aside0.mk H
      clear H
      go_wp2_with (first | ((with_reducible refine gate_callee (f := 23) rfl ?_); refine goesL_ (some 12) rfl rfl Try.func23 (by kernel_rfl) rfl #[.slice A0 l0.length c0] rfl (by (try simp only [List.map_toArray, List.map_cons, List.map_nil]); first | done | rfl | (simp only [List.length_drop, List.length_take]; rfl)) ?_; (with_reducible refine (tlv_Right.calls k _ _ l0 false _ ?side1 ?side2 A4.out).mono ?_); (case side1 => repeat (first | exact (Kd.V_reads' HO0.out).2.2 | (with_reducible refine Kd.C_alloc ?_ _) | (with_reducible refine Kd.C_drewN ?_ _) | (with_reducible refine Kd.C_drew ?_))); (case side2 => exact (Kd.V_reads' HO0.out).2.1); rintro e w9 ⟨rfl, hb⟩; refine ⟨_, rfl, ?_⟩; have n0_ := Aside0.mk (Kd.V_below (by (with_reducible repeat (first | apply Kd.V_alloc | apply Kd.V_drewN | apply Kd.V_drew)); exact HO0.out) hb); have n1_ := Aside0.mk (Kd.V_below (by (with_reducible repeat (first | apply Kd.V_alloc | apply Kd.V_drewN | apply Kd.V_drew)); exact HO1.out) hb); have n2_ := Aside0.mk (below_step (by repeat (first | (with_reducible first | exact HB.out | apply below_alloc | apply pw_below_drewN | apply below_drew1) | exact HB.out)) hb); clear HO0; clear HO1; clear HB; have HO0 := n0_; have HO1 := n1_; have HB := n2_; clear n0_ n1_ n2_; (try clear hb); (try clear hb2); (try clear hk); (try clear hi)))
      go_meet
      case rel => exact ⟨_, (true), (by first | rfl | (simp; done) | (simp [*]; done)), H', ⟨by first | omega | exact Nat.le_refl _⟩, ⟨by (with_reducible repeat (first | apply Kd.V_alloc | apply Kd.V_drewN | apply Kd.V_drew)); exact HO0.out⟩, ⟨by (with_reducible repeat (first | apply Kd.V_alloc | apply Kd.V_drewN | apply Kd.V_drew)); exact HO1.out⟩, ⟨by repeat (first | (with_reducible first | exact HB.out | apply below_alloc | apply pw_below_drewN | apply below_drew1) | exact HB.out)⟩⟩
  case rest =>
    clear HC3
    try clear c1
    try clear c2
    try clear p2
    try clear c4
    try clear c5
    obtain ⟨kq, x18_2, rfl, HA, HJ2, HO_0, HO_1, HB⟩ := hcut
    cases kq with
    | zero => exact absurd HA.out (by simp [tlv_Join.j0])
    | succ kj2 =>
      have H := HA.out
      clear HA
      simp only [tlv_Join.j0] at H
      by_cases c10 : x18_2 = true
      · subst c10
        have H1 : (some (([] : List (S70)), 1)) = some (r1, r2) := by rw [if_pos rfl] at H; exact H
        clear H
        have H := H1
        clear H1
        simp only [Option.some.injEq, Prod.mk.injEq] at H
        obtain ⟨rfl, rfl⟩ := H
        go_wp2
        go_ret2
        exact ⟨_, by first | rfl | (simp [errW_none, errW_some] <;> rfl) | (simp [*, errW_none, errW_some] <;> rfl), by first | exact Kd.S_nil _ _ _ _ _ | exact Kd.N_nil _ _ _ _ _ | exact Kd.V_nil _ _ _ _ _ | exact Kd.Q_nil _ _ _ _ _ | exact Kd.R_nil _ _ _ _ _, by repeat (first | (with_reducible first | exact HB.out | apply below_alloc | apply pw_below_drewN | apply below_drew1) | exact HB.out)⟩
      · replace c10 := Bool.eq_false_iff.mpr c10
        subst c10
        have H1 : ((some (([l0, l1] : List (List (S70))) : List (List (S70)))).bind fun y248 => (tlv_Join.l0 kj2 ([] : List (S70)) y248 (y248.length : Int) 0)) = some (r1, r2) := by rw [if_neg (show ¬ (false = true) by decide)] at H; exact H
        clear H
        have H := H1
        clear H1
        obtain ⟨y248, hy248⟩ : ∃ y_ : List (List (S70)), y_ = (([l0, l1] : List (List (S70)))) := ⟨_, rfl⟩
        replace H : (tlv_Join.l0 kj2 ([] : List (S70)) y248 (y248.length : Int) 0) = some (r1, r2) := by first | (rw [hy248]; with_reducible exact H) | (have H2_ := (Option.bind_some _ _).symm.trans H; rw [hy248]; with_reducible exact H2_) | (have H2_ := (Option.bind_some _ _).symm.trans H; with_reducible exact H2_) | with_reducible exact H | (rw [hy248]; exact H) | exact H
        have Ny248 := Aside0.mk hy248
        clear hy248
        have H' := Aside0.mk H
        clear H
        go_wp2_with (first | ((with_reducible refine gate_dst (N := 21) rfl ?_); refine Kd.N_lit (Kd.slice 70 k70) _ 22 ?hg (N' := 21) ?hd (xs := ([l0, l1] : List (List (S70)))) (inner := [.slice A0 l0.length c0, .slice A1 l1.length c1]) (ok := (fun k_ => ((P0_ k_ ∨ P1_ k_) ∨ w.heap.size ≤ k_))) (okp := (fun k_ => ((P0_ k_ ∨ P1_ k_) ∨ w.heap.size ≤ k_))) ?hr ?hp (fun _ hk => hk) ((show ∀ k_, wc.heap.size ≤ k_ → (fun k_ => ((P0_ k_ ∨ P1_ k_) ∨ w.heap.size ≤ k_)) k_ from fun k_ hk => (.inr (Nat.le_trans (below_size (by repeat (first | (with_reducible first | exact HB.out | apply below_alloc | apply pw_below_drewN | apply below_drew1) | exact HB.out))) hk))) _ (Nat.le_refl _)) (Below.refl _ _) (Nat.le_refl _) (by simp) ?_; (case hd => rfl); (case hg => rfl); (case hr => first | (go_simp; done) | (go_simp; rfl) | (go_simp; (try simp only [u8_w, u32_w]); first | done | rfl)); (case hp => exact (Reps.one (show Kd.FK (Kd.slice 70 k70) _ _ l0 [.slice A0 l0.length c0] from (Kd.FK_slice_mk (Kd.V_reads' (Kd.V_mono (ok' := (fun k_ => ((P0_ k_ ∨ P1_ k_) ∨ w.heap.size ≤ k_))) (HO_0.out) (fun k_ hk => hk))).2.1 (Kd.V_F (Kd.V_mono (ok' := (fun k_ => ((P0_ k_ ∨ P1_ k_) ∨ w.heap.size ≤ k_))) (HO_0.out) (fun k_ hk => hk))))) (Reps.one (show Kd.FK (Kd.slice 70 k70) _ _ l1 [.slice A1 l1.length c1] from (Kd.FK_slice_mk (Kd.V_reads' (Kd.V_mono (ok' := (fun k_ => ((P0_ k_ ∨ P1_ k_) ∨ w.heap.size ≤ k_))) (HO_1.out) (fun k_ hk => hk))).2.1 (Kd.V_F (Kd.V_mono (ok' := (fun k_ => ((P0_ k_ ∨ P1_ k_) ∨ w.heap.size ≤ k_))) (HO_1.out) (fun k_ hk => hk))))) (Reps.none _ _)))); intro v249 w11 ho12 hb hg_ hnew_; clear hg_ hnew_; (first | rw [← Ny248.out] at ho12 | (simp only [Int.reduceToNat] at ho12; rw [← Ny248.out] at ho12)); have n0_ := Aside0.mk (Kd.V_elder' (by (with_reducible repeat (first | apply Kd.V_alloc | apply Kd.V_drewN | apply Kd.V_drew)); exact HO_0.out) (Kd.N_base ho12) hb); have n1_ := Aside0.mk (Kd.V_elder' (by (with_reducible repeat (first | apply Kd.V_alloc | apply Kd.V_drewN | apply Kd.V_drew)); exact HO_1.out) (Kd.N_base ho12) hb); have n2_ := Aside0.mk (Kd.N_lower ho12 (below_size (by repeat (first | (with_reducible first | exact HB.out | apply below_alloc | apply pw_below_drewN | apply below_drew1) | exact HB.out)))); have n3_ := Aside0.mk (below_step (by repeat (first | (with_reducible first | exact HB.out | apply below_alloc | apply pw_below_drewN | apply below_drew1) | exact HB.out)) hb); clear HO_0; clear HO_1; clear HB; have HO_0 := n0_; have HO_1 := n1_; have HO250 := n2_; have HB := n3_; clear n0_ n1_ n2_ n3_; clear hb ho12; obtain ⟨Ao13, co13, eo13⟩ := Kd.N_slice HO250.out; subst eo13))
        go_loopg [6, 23] kj2 (fun kq v6 v23 w' => ∃ (x6_2 : List (S70)) (x23_2 : Int), v23 = .int .i64 x23_2 ∧ Aside0 (tlv_Join.l0 kq x6_2 y248 (y248.length : Int) x23_2 = some (r1, r2)) ∧ Aside0 (kq ≤ kj2) ∧ Aside0 (Kd.N k70 70 w' w.heap.size (fun k_ => ((P0_ k_ ∨ P1_ k_) ∨ w.heap.size ≤ k_) ∧ some k_ ≠ ((.slice Ao13 y248.length co13) : Value).ownBlock) v6 x6_2) ∧ Aside0 (Kd.N (Kd.slice 70 k70) 22 w' w.heap.size (fun k_ => ((P0_ k_ ∨ P1_ k_) ∨ w.heap.size ≤ k_) ∧ some k_ ≠ (v6 : Value).ownBlock) (.slice Ao13 y248.length co13) y248) ∧ Aside0 (Below w.heap.size w w'))
        case atStart => exact ⟨(([] : List (S70))), (0), (by first | rfl | (simp; done) | (simp [*]; done)), H', ⟨Nat.le_refl _⟩, ⟨by first | exact Kd.S_nil _ _ _ _ _ | exact Kd.N_nil _ _ _ _ _ | exact Kd.V_nil _ _ _ _ _ | exact Kd.Q_nil _ _ _ _ _ | exact Kd.R_nil _ _ _ _ _⟩, ⟨by (with_reducible repeat (first | apply Kd.N_alloc | apply Kd.N_drewN | apply Kd.N_drew)); exact Kd.N_mono HO250.out (fun _ hk => ⟨hk, (by simp [Value.ownBlock])⟩)⟩, ⟨by repeat (first | (with_reducible first | exact HB.out | apply below_alloc | apply pw_below_drewN | apply below_drew1) | exact HB.out)⟩⟩
        case round =>
          clear H'
          try clear c1
          try clear c2
          try clear p2
          try clear c4
          try clear c5
          try clear c10
          try clear p2
          obtain ⟨x6_2, x23_2, rfl, HA, HK2, HO_6, HO_21, HB⟩ := hrel
          cases gk with
          | zero => exact absurd HA.out (by simp [tlv_Join.l0])
          | succ k2 =>
            have H := HA.out
            clear HA
            simp only [tlv_Join.l0] at H
            by_cases c14 : x23_2 < (y248.length : Int)
            · rw [if_pos c14] at H
              have c14b0 : decide (x23_2 < (y248.length : Int)) = true := decide_eq_true c14
              clear c14
              by_cases c15 : 0 ≤ x23_2
              · rw [if_pos c15] at H
                have c15b0 : decide (0 ≤ x23_2) = true := decide_eq_true c15
                clear c15
                by_cases c16 : x23_2 < (y248.length : Int)
                · rw [if_pos c16] at H
                  have c16b0 : decide (x23_2 < (y248.length : Int)) = true := decide_eq_true c16
                  clear c16
                  have H' := Aside0.mk H
                  clear H
                  have p252 : 0 ≤ (x23_2 : Int) := of_decide_eq_true (by first | (with_reducible assumption) | assumption)
                  have q252 : x23_2 < (y248.length : Int) := of_decide_eq_true (by first | (with_reducible assumption) | assumption)
                  obtain ⟨ad252, A252_0, c252_0, e252, hx252_0, hl252_0, hi252_0⟩ := at_L4 (Kd.N_reads' HO_21.out).2.2 x23_2 p252 q252
                  cases e252
                  obtain ⟨ce252, hce252, hMe252, hcc252⟩ := Kd.N_get HO_21.out [] x23_2 p252 (by first | exact q252 | exact of_decide_eq_true (by first | (with_reducible assumption) | assumption) | (have e_ := (Kd.N_reads' HO_21.out).1; omega))
                  obtain ⟨ua252_0, uc252_0, rfl, ul252_0, ge252_0⟩ := Kd.FK_slice_open hMe252
                  have hv252_0 := hcc252 0 _ rfl
                  rw [Nat.add_zero, show ((Kd.slice 70 k70)).sz = 1 from rfl, Nat.mul_one] at hv252_0
                  replace hv252_0 := Option.some.inj (hv252_0.symm.trans hx252_0)
                  injection hv252_0 with hva_ hvn_ hvc_
                  rw [hva_] at ge252_0
                  rw [hvc_] at ul252_0
                  have HL252_0 := Aside0.mk (show Kd.V k70 70 _ w.heap.size _ _ (rd_L4 y248 x23_2) from Kd.V_mk ul252_0 ge252_0)
                  clear hva_ hvn_ hvc_ ge252_0 ul252_0
                  clear hcc252 hce252
                  have HR252_0 := Aside0.mk hi252_0
                  have HC252_0 := Aside0.mk hl252_0
                  clear hi252_0 hl252_0
                  replace p252 := eq_true p252
                  replace q252 := eq_true q252
                  go_wp2
                  go_loopg [6, 29] k2 (fun kq v6 v29 w' => ∃ (x6_3 : List (S70)) (x29_3 : Int), v29 = .int .i64 x29_3 ∧ Aside0 (tlv_Join.l1 kq x6_3 y248 (y248.length : Int) x23_2 (rd_L4 y248 x23_2) ((rd_L4 y248 x23_2).length : Int) x29_3 = some (r1, r2)) ∧ Aside0 (kq ≤ k2) ∧ Aside0 (Kd.N k70 70 w' w.heap.size (fun k_ => ((P0_ k_ ∨ P1_ k_) ∨ w.heap.size ≤ k_) ∧ some k_ ≠ ((.slice (some ad252) y248.length co13) : Value).ownBlock) v6 x6_3) ∧ Aside0 (Kd.N (Kd.slice 70 k70) 22 w' w.heap.size (fun k_ => ((P0_ k_ ∨ P1_ k_) ∨ w.heap.size ≤ k_) ∧ some k_ ≠ (v6 : Value).ownBlock) (.slice (some ad252) y248.length co13) y248) ∧ Aside0 (Kd.V k70 70 w' w.heap.size (fun k_ => ((P0_ k_ ∨ P1_ k_) ∨ w.heap.size ≤ k_) ∧ some k_ ≠ (v6 : Value).ownBlock ∧ some k_ ≠ ((.slice (some ad252) y248.length co13) : Value).ownBlock) (.slice A252_0 (rd_L4 y248 x23_2).length c252_0) (rd_L4 y248 x23_2)) ∧ Aside0 (Below w.heap.size w w'))
                  case atStart => exact ⟨(x6_2), (0), (by first | rfl | (simp; done) | (simp [*]; done)), H', ⟨Nat.le_refl _⟩, ⟨by (with_reducible repeat (first | apply Kd.N_alloc | apply Kd.N_drewN | apply Kd.N_drew)); exact HO_6.out⟩, ⟨by (with_reducible repeat (first | apply Kd.N_alloc | apply Kd.N_drewN | apply Kd.N_drew)); exact HO_21.out⟩, ⟨by (with_reducible repeat (first | apply Kd.V_alloc | apply Kd.V_drewN | apply Kd.V_drew)); exact Kd.V_mono HL252_0.out (fun _ hk => ⟨hk.1.1, ⟨hk.1.2, hk.2⟩⟩)⟩, ⟨by repeat (first | (with_reducible first | exact HB.out | apply below_alloc | apply pw_below_drewN | apply below_drew1) | exact HB.out)⟩⟩
                  case round =>
                    clear H'
                    try clear c1
                    try clear c2
                    try clear p2
                    try clear q2
                    try clear hx2
                    try clear c4
                    try clear c5
                    try clear c10
                    try clear c14
                    try clear c14b0
                    try clear c15
                    try clear c15b0
                    try clear c16
                    try clear c16b0
                    try clear hx252_0
                    try clear p2
                    try clear p252
                    try clear q252
                    obtain ⟨x6_3, x29_3, rfl, HA, HK3, HO_6, HO_21, HO_27, HB⟩ := hrel
                    cases gk with
                    | zero => exact absurd HA.out (by simp [tlv_Join.l1])
                    | succ k3 =>
                      have H := HA.out
                      clear HA
                      simp only [tlv_Join.l1] at H
                      by_cases c17 : x29_3 < ((rd_L4 y248 x23_2).length : Int)
                      · rw [if_pos c17] at H
                        have c17b0 : decide (x29_3 < ((rd_L4 y248 x23_2).length : Int)) = true := decide_eq_true c17
                        clear c17
                        by_cases c18 : 0 ≤ x29_3
                        · rw [if_pos c18] at H
                          have c18b0 : decide (0 ≤ x29_3) = true := decide_eq_true c18
                          clear c18
                          by_cases c19 : x29_3 < ((rd_L4 y248 x23_2).length : Int)
                          · rw [if_pos c19] at H
                            have c19b0 : decide (x29_3 < ((rd_L4 y248 x23_2).length : Int)) = true := decide_eq_true c19
                            clear c19
                            replace H := Option.bind_eq_some_iff.mp H
                            obtain ⟨t255, A200, H⟩ := H
                            replace H : (tlv_Join.l1 k3 t255 y248 (y248.length : Int) x23_2 (rd_L4 y248 x23_2) ((rd_L4 y248 x23_2).length : Int) (wrap64 (x29_3 + 1))) = some (r1, r2) := H
                            have A20 := Aside0.mk A200
                            clear A200
                            have H' := Aside0.mk H
                            clear H
                            have p253 : 0 ≤ (x29_3 : Int) := of_decide_eq_true (by first | (with_reducible assumption) | assumption)
                            have q253 : x29_3 < ((rd_L4 y248 x23_2).length : Int) := of_decide_eq_true (by first | (with_reducible assumption) | assumption)
                            obtain ⟨ad253, A253_1, c253_1, e253, hx253_0, hx253_1, hl253_1, hi253_1⟩ := at_T70 (Kd.V_reads' HO_27.out).2.2 x29_3 p253 q253
                            cases e253
                            obtain ⟨ce253, hce253, hMe253, hcc253⟩ := Kd.V_get HO_27.out z70 x29_3 p253 (by first | exact q253 | exact of_decide_eq_true (by first | (with_reducible assumption) | assumption) | (have e_ := (Kd.V_reads' HO_27.out).1; omega))
                            obtain ⟨ua253_1, uc253_1, rfl, ul253_1, ge253_1⟩ := k70_openF hMe253
                            have hv253_1 := hcc253 1 _ rfl
                            rw [add_field _ _ 1 (by omega)] at hv253_1
                            replace hv253_1 := Option.some.inj (hv253_1.symm.trans hx253_1)
                            injection hv253_1 with hva_ hvn_ hvc_
                            rw [hva_] at ge253_1
                            rw [hvc_] at ul253_1
                            have HL253_1 := Aside0.mk (show Kd.V (Kd.int .u8) 5 _ w.heap.size _ _ ((rd_T70 (rd_L4 y248 x23_2) x29_3).f1) from Kd.V_mk ul253_1 ge253_1)
                            clear hva_ hvn_ hvc_ ge253_1 ul253_1
                            clear hcc253 hce253
                            have HR253_1 := Aside0.mk hi253_1
                            have HC253_1 := Aside0.mk hl253_1
                            clear hi253_1 hl253_1
                            replace p253 := eq_true p253
                            replace q253 := eq_true q253
                            go_wp2_with (first | ((with_reducible refine gate_dst (N := 10) rfl ?_); refine box_event ?hg (N := 10) ?hd (cs := #[.int .i64 0, .slice none 0 0]) (t := 70) ?hr ?_; (case hd => rfl); (case hg => rfl); (case hr => first | (go_simp; done) | (go_simp; rfl)); intro gb254 hg w21 hbox hb; have n0_ := Aside0.mk (Kd.N_below (Kd.N_elderB (by (with_reducible repeat (first | apply Kd.N_alloc | apply Kd.N_drewN | apply Kd.N_drew)); exact HO_6.out) gb254 (Nat.le_of_eq hg.symm)) hb); have n1_ := Aside0.mk (Kd.N_below (Kd.N_elderB (by (with_reducible repeat (first | apply Kd.N_alloc | apply Kd.N_drewN | apply Kd.N_drew)); exact HO_21.out) gb254 (Nat.le_of_eq hg.symm)) hb); have n2_ := Aside0.mk (Kd.V_below (Kd.V_elderB (by (with_reducible repeat (first | apply Kd.V_alloc | apply Kd.V_drewN | apply Kd.V_drew)); exact HO_27.out) gb254 (Nat.le_of_eq hg.symm)) hb); have n3_ := Aside0.mk (Kd.V_below (Kd.V_elderB (by (with_reducible repeat (first | apply Kd.V_alloc | apply Kd.V_drewN | apply Kd.V_drew)); exact HL253_1.out) gb254 (Nat.le_of_eq hg.symm)) hb); have n4_ := Aside0.mk (Kd.C_below (by repeat (first | (with_reducible exact HR253_1.out) | (with_reducible refine Kd.C_alloc ?_ _) | (with_reducible refine Kd.C_drewN ?_ _) | (with_reducible refine Kd.C_drew ?_) | exact HR253_1.out)) hb); have n5_ := Aside0.mk (below_step (by repeat (first | (with_reducible first | exact HB.out | apply below_alloc | apply pw_below_drewN | apply below_drew1) | exact HB.out)) hb); have n6_ := Aside0.mk (hbox); have n7_ := Aside0.mk ((by rw [hg]; exact (below_size (by repeat (first | (with_reducible first | exact HB.out | apply below_alloc | apply pw_below_drewN | apply below_drew1) | exact HB.out))) : w.heap.size ≤ gb254)); have n8_ := Aside0.mk ((by rw [hg]; exact (below_size (by repeat (first | (with_reducible first | exact HB.out | apply below_alloc | apply pw_below_drewN | apply below_drew1) | exact HB.out))) : w.heap.size ≤ gb254)); clear HO_6; clear HO_21; clear HO_27; clear HL253_1; clear HR253_1; clear HB; have HO_6 := n0_; have HO_21 := n1_; have HO_27 := n2_; have HL253_1 := n3_; have HR253_1 := n4_; have HB := n5_; have BK254 := n6_; have GW254 := n7_; have GE254 := n8_; clear n0_ n1_ n2_ n3_ n4_ n5_ n6_ n7_ n8_; clear hb hbox hg; have hcz22_0 : w21.cell? ⟨gb254, 0, none⟩ = some (.int .i64 0) := (blk_cell BK254.out 0).trans rfl; have hcz22_1 : w21.cell? ⟨gb254, 1, none⟩ = some (.slice none 0 0) := (blk_cell BK254.out 1).trans rfl; have hfz22_0 := blk_frozen BK254.out 0; have hfz22_1 := blk_frozen BK254.out 1) | ((with_reducible refine gate_store (t := 70) (p := 10) rfl ?_); refine store_event (t := 70) (p := 10) (v := ?vo_w23) (w1 := ((w21.setCell ⟨gb254, 0, none⟩ (.int .i64 ((rd_T70 (rd_L4 y248 x23_2) x29_3).f0))).setCell ⟨gb254, 1, none⟩ (.slice A253_1 ((rd_T70 (rd_L4 y248 x23_2) x29_3).f1).length c253_1))) ?hg ?ho ?hn ?hr ?_; (case ho => rfl); (case hg => rfl); (case hn => rfl); (case hr => first | (go_simp; done) | (go_simp; rfl)); intro w23 hw; have n0_ : Aside0 (Kd.N k70 70 w23 w.heap.size (fun k_ => ((P0_ k_ ∨ P1_ k_) ∨ w.heap.size ≤ k_) ∧ some k_ ≠ (.slice (some ad252) y248.length co13 : Value).ownBlock ∧ k_ ≠ gb254) u6 x6_3) := ⟨(by rw [hw]; exact (by (with_reducible repeat (first | apply Kd.N_alloc | apply Kd.N_drewN | apply Kd.N_drew)); exact Kd.N_mono (Kd.N_far (p := ⟨gb254, 1, none⟩) (Kd.N_far (p := ⟨gb254, 0, none⟩) (Kd.N_mono HO_6.out (fun k_ hk => (⟨hk, hk.2⟩ : _ ∧ k_ ≠ gb254))) (fun _ hk => hk.2) (.int .i64 ((rd_T70 (rd_L4 y248 x23_2) x29_3).f0))) (fun _ hk => hk.2) (.slice A253_1 ((rd_T70 (rd_L4 y248 x23_2) x29_3).f1).length c253_1)) (fun _ hk => ⟨hk.1.1.1, ⟨hk.1.1.2, hk.1.2⟩⟩)))⟩; have n1_ : Aside0 (Kd.N (Kd.slice 70 k70) 22 w23 w.heap.size (fun k_ => ((P0_ k_ ∨ P1_ k_) ∨ w.heap.size ≤ k_) ∧ some k_ ≠ (u6 : Value).ownBlock ∧ k_ ≠ gb254) (.slice (some ad252) y248.length co13) y248) := ⟨(by rw [hw]; exact (by (with_reducible repeat (first | apply Kd.N_alloc | apply Kd.N_drewN | apply Kd.N_drew)); exact Kd.N_mono (Kd.N_far (p := ⟨gb254, 1, none⟩) (Kd.N_far (p := ⟨gb254, 0, none⟩) (Kd.N_mono HO_21.out (fun k_ hk => (⟨hk, hk.2⟩ : _ ∧ k_ ≠ gb254))) (fun _ hk => hk.2) (.int .i64 ((rd_T70 (rd_L4 y248 x23_2) x29_3).f0))) (fun _ hk => hk.2) (.slice A253_1 ((rd_T70 (rd_L4 y248 x23_2) x29_3).f1).length c253_1)) (fun _ hk => ⟨hk.1.1.1, ⟨hk.1.1.2, hk.1.2⟩⟩)))⟩; have n2_ : Aside0 (Kd.V k70 70 w23 w.heap.size (fun k_ => ((P0_ k_ ∨ P1_ k_) ∨ w.heap.size ≤ k_) ∧ some k_ ≠ (u6 : Value).ownBlock ∧ some k_ ≠ (.slice (some ad252) y248.length co13 : Value).ownBlock ∧ k_ ≠ gb254) (.slice (some ad253) (rd_L4 y248 x23_2).length c252_0) (rd_L4 y248 x23_2)) := ⟨(by rw [hw]; exact (by (with_reducible repeat (first | apply Kd.V_alloc | apply Kd.V_drewN | apply Kd.V_drew)); exact Kd.V_mono (Kd.V_far (p := ⟨gb254, 1, none⟩) (Kd.V_far (p := ⟨gb254, 0, none⟩) (Kd.V_mono HO_27.out (fun k_ hk => (⟨hk, hk.2⟩ : _ ∧ k_ ≠ gb254))) (fun _ hk => hk.2) (.int .i64 ((rd_T70 (rd_L4 y248 x23_2) x29_3).f0))) (fun _ hk => hk.2) (.slice A253_1 ((rd_T70 (rd_L4 y248 x23_2) x29_3).f1).length c253_1)) (fun _ hk => ⟨hk.1.1.1, ⟨hk.1.1.2.1, ⟨hk.1.1.2.2, hk.1.2⟩⟩⟩)))⟩; have n3_ : Aside0 (Kd.V (Kd.int .u8) 5 w23 w.heap.size (fun k_ => ((P0_ k_ ∨ P1_ k_) ∨ w.heap.size ≤ k_) ∧ some k_ ≠ (u6 : Value).ownBlock ∧ some k_ ≠ (.slice (some ad252) y248.length co13 : Value).ownBlock ∧ k_ ≠ gb254) (.slice A253_1 ((rd_T70 (rd_L4 y248 x23_2) x29_3).f1).length c253_1) ((rd_T70 (rd_L4 y248 x23_2) x29_3).f1)) := ⟨(by rw [hw]; exact (by (with_reducible repeat (first | apply Kd.V_alloc | apply Kd.V_drewN | apply Kd.V_drew)); exact Kd.V_mono (Kd.V_far (p := ⟨gb254, 1, none⟩) (Kd.V_far (p := ⟨gb254, 0, none⟩) (Kd.V_mono HL253_1.out (fun k_ hk => (⟨hk, hk.2⟩ : _ ∧ k_ ≠ gb254))) (fun _ hk => hk.2) (.int .i64 ((rd_T70 (rd_L4 y248 x23_2) x29_3).f0))) (fun _ hk => hk.2) (.slice A253_1 ((rd_T70 (rd_L4 y248 x23_2) x29_3).f1).length c253_1)) (fun _ hk => ⟨hk.1.1.1, ⟨hk.1.1.2.1, ⟨hk.1.1.2.2, hk.1.2⟩⟩⟩)))⟩; have n4_ : Aside0 (w23.heap[gb254]? = some (.cells #[.int .i64 ((rd_T70 (rd_L4 y248 x23_2) x29_3).f0), .slice A253_1 ((rd_T70 (rd_L4 y248 x23_2) x29_3).f1).length c253_1] 70 (0, 0))) := ⟨(by rw [hw]; exact (by (with_reducible repeat (first | refine blk_drewN ?_ _ | refine blk_drew ?_ | refine blk_alloc ?_ _)); refine blk_put (cs := #[.int .i64 ((rd_T70 (rd_L4 y248 x23_2) x29_3).f0), .slice none 0 0]) ?_ 1 _ rfl; (with_reducible repeat (first | refine blk_drewN ?_ _ | refine blk_drew ?_ | refine blk_alloc ?_ _)); refine blk_put (cs := #[.int .i64 0, .slice none 0 0]) ?_ 0 _ rfl; (with_reducible repeat (first | refine blk_drewN ?_ _ | refine blk_drew ?_ | refine blk_alloc ?_ _)); exact BK254.out))⟩; have n5_ : Aside0 (Below w.heap.size w w23) := ⟨(by rw [hw]; exact (by repeat (first | (with_reducible first | exact HB.out | apply below_alloc | apply pw_below_drewN | apply below_drew1 | refine below_set ?_ GE254.out) | exact HB.out)))⟩; clear hw; clear HO_6; clear HO_21; clear HO_27; clear HL253_1; clear BK254; clear HB; have HO_6 := n0_; have HO_21 := n1_; have HO_27 := n2_; have HL253_1 := n3_; have BK254 := n4_; have HB := n5_; clear n0_ n1_ n2_ n3_ n4_ n5_; have hcz24_0 : w23.cell? ⟨gb254, 0, none⟩ = some (.int .i64 ((rd_T70 (rd_L4 y248 x23_2) x29_3).f0)) := (blk_cell BK254.out 0).trans rfl; have hcz24_1 : w23.cell? ⟨gb254, 1, none⟩ = some (.slice A253_1 ((rd_T70 (rd_L4 y248 x23_2) x29_3).f1).length c253_1) := (blk_cell BK254.out 1).trans rfl; have hfz24_0 := blk_frozen BK254.out 0; have hfz24_1 := blk_frozen BK254.out 1; obtain ⟨Ao25, co25, eo25⟩ := Kd.N_slice HO_6.out; subst eo25) | ((with_reducible refine gate_callee (f := 60) rfl ?_); refine goesL_ (some 35) rfl rfl Try.func60 (by kernel_rfl) rfl #[.slice Ao25 x6_3.length co25, .agg #[.int .i64 ((rd_T70 (rd_L4 y248 x23_2) x29_3).f0), .slice A253_1 ((rd_T70 (rd_L4 y248 x23_2) x29_3).f1).length c253_1]] rfl (by (try simp only [List.map_toArray, List.map_cons, List.map_nil]); first | done | rfl | (simp only [List.length_drop, List.length_take]; rfl)) ?_; (with_reducible refine (tlv_join.calls k3 (fun k_ => some k_ = (.slice Ao25 x6_3.length co25 : Value).ownBlock) (fun k_ => ((((P0_ k_ ∨ P1_ k_) ∨ w.heap.size ≤ k_)) ∧ (some k_ ≠ (.slice (some ad252) y248.length co13 : Value).ownBlock ∧ k_ ≠ gb254))) (.slice Ao25 x6_3.length co25) x6_3 ((rd_T70 (rd_L4 y248 x23_2) x29_3).f0) _ _ ((rd_T70 (rd_L4 y248 x23_2) x29_3).f1) t255 w _ ?side1 ?side2 ?side3 ?side4 ?side5 A20.out).mono ?_); (case side1 => repeat (first | (with_reducible first | exact HB.out | apply below_alloc | apply pw_below_drewN | apply below_drew1 | refine below_set ?_ GE254.out) | exact HB.out)); (case side2 => exact (by (with_reducible repeat (first | apply Kd.N_alloc | apply Kd.N_drewN | apply Kd.N_drew)); exact HO_6.out)); (case side3 => intro k_ e_; first | exact e_.symm | (simp [Value.ownBlock] at e_)); (case side4 => exact Kd.C_kept_ownV (HL253_1.out) (fun k_ hk_ hs_ => (hk_.2.1) hs_)); (case side5 => exact HC253_1.out); rintro e w26 ⟨v256, rfl, ho0, ht0, hb, hkp⟩; refine ⟨_, rfl, ?_⟩; have n0_ := Aside0.mk (Kd.N_mono (ok' := fun k_ => ((P0_ k_ ∨ P1_ k_) ∨ w.heap.size ≤ k_) ∧ k_ ≠ gb254 ∧ some k_ ≠ (v256 : Value).ownBlock) (Kd.N_keptB (HO_21.out) hkp (fun k_ hk_ hs_ => (hk_.2.1) hs_)) (fun k_ hk_ => ⟨hk_.1.1, hk_.1.2.2, fun e_ => Or.elim (ht0 k_ e_.symm) (fun hs_ => hk_.2.1 hs_) (fun hn_ => Nat.not_le.2 hk_.2.2 hn_)⟩)); have n1_ := Aside0.mk (Kd.V_mono (ok' := fun k_ => ((P0_ k_ ∨ P1_ k_) ∨ w.heap.size ≤ k_) ∧ some k_ ≠ (.slice (some ad252) y248.length co13 : Value).ownBlock ∧ k_ ≠ gb254 ∧ some k_ ≠ (v256 : Value).ownBlock) (Kd.V_keptB (HO_27.out) hkp (fun k_ hk_ hs_ => (hk_.2.1) hs_)) (fun k_ hk_ => ⟨hk_.1.1, hk_.1.2.2.1, hk_.1.2.2.2, fun e_ => Or.elim (ht0 k_ e_.symm) (fun hs_ => hk_.2.1 hs_) (fun hn_ => Nat.not_le.2 hk_.2.2 hn_)⟩)); have n2_ := Aside0.mk (blk_kept (by (with_reducible repeat (first | refine blk_drewN ?_ _ | refine blk_drew ?_ | refine blk_alloc ?_ _)); exact BK254.out) hkp (fun hs_ => (fun e_ => (Kd.N_away HO_6.out (fun _ hk => hk.2.2)) e_) hs_)); have n3_ := Aside0.mk (Kd.N_lower (Kd.N_mono (ok' := fun k_ => ((P0_ k_ ∨ P1_ k_) ∨ w.heap.size ≤ k_) ∧ some k_ ≠ (.slice (some ad252) y248.length co13 : Value).ownBlock ∧ k_ ≠ gb254) ho0 (fun k_ hk_ => ⟨Or.elim hk_ (fun hs_ => hs_.1) (fun hn_ => (.inr (Nat.le_trans (below_size (by repeat (first | (with_reducible first | exact HB.out | apply below_alloc | apply pw_below_drewN | apply below_drew1 | refine below_set ?_ GE254.out) | exact HB.out))) hn_))), Or.elim hk_ (fun hs_ => hs_.2.1) (fun hn_ => (Kd.fresh' (Kd.N_lt (by (with_reducible repeat (first | apply Kd.N_alloc | apply Kd.N_drewN | apply Kd.N_drew)); exact HO_21.out)) k_ hn_)), Or.elim hk_ (fun hs_ => hs_.2.2) (fun hn_ => (Kd.freshB (g := gb254) (o := .cells #[.int .i64 ((rd_T70 (rd_L4 y248 x23_2) x29_3).f0), .slice A253_1 ((rd_T70 (rd_L4 y248 x23_2) x29_3).f1).length c253_1] 70 (0, 0)) (by (with_reducible repeat (first | refine blk_drewN ?_ _ | refine blk_drew ?_ | refine blk_alloc ?_ _)); exact BK254.out) k_ hn_))⟩)) (Nat.le_refl _)); have n4_ := Aside0.mk (hb); clear HO_21; clear HO_27; clear BK254; clear HB; clear HO_6; clear HL253_1; have HO_21 := n0_; have HO_27 := n1_; have BK254 := n2_; have HO257 := n3_; have HB := n4_; clear n0_ n1_ n2_ n3_ n4_; (try clear hb); (try clear hkp); (try clear ho0)))
                            go_roundg k3
                            case measure => have := HJ2.out; have := HK2.out; have := HK3.out; omega
                            case rel => exact ⟨(t255), (wrap64 (x29_3 + 1)), (by first | rfl | (simp; done) | (simp [*]; done)), H', ⟨by have := HJ2.out; have := HK2.out; have := HK3.out; omega⟩, ⟨by (with_reducible repeat (first | apply Kd.N_alloc | apply Kd.N_drewN | apply Kd.N_drew)); exact Kd.N_mono HO257.out (fun _ hk => ⟨hk.1, hk.2.1⟩)⟩, ⟨by (with_reducible repeat (first | apply Kd.N_alloc | apply Kd.N_drewN | apply Kd.N_drew)); exact Kd.N_mono HO_21.out (fun _ hk => ⟨hk.1, hk.2.2⟩)⟩, ⟨by (with_reducible repeat (first | apply Kd.V_alloc | apply Kd.V_drewN | apply Kd.V_drew)); exact Kd.V_mono HO_27.out (fun _ hk => ⟨hk.1, ⟨hk.2.2.2, hk.2.1⟩⟩)⟩, ⟨by repeat (first | (with_reducible first | exact HB.out | apply below_alloc | apply pw_below_drewN | apply below_drew1 | refine below_set ?_ GE254.out) | exact HB.out)⟩⟩
                          · rw [if_neg c19] at H
                            exact absurd H (by simp)
                        · rw [if_neg c18] at H
                          exact absurd H (by simp)
                      · rw [if_neg c17] at H
                        have c17b0 : decide (x29_3 < ((rd_L4 y248 x23_2).length : Int)) = false := decide_eq_false c17
                        clear c17
                        have H' := Aside0.mk H
                        clear H
                        go_wp2
                        go_roundg k3
                        case measure => have := HJ2.out; have := HK2.out; have := HK3.out; omega
                        case rel => exact ⟨(x6_3), (wrap64 (x23_2 + 1)), (by first | rfl | (simp; done) | (simp [*]; done)), H', ⟨by have := HJ2.out; have := HK2.out; have := HK3.out; omega⟩, ⟨by (with_reducible repeat (first | apply Kd.N_alloc | apply Kd.N_drewN | apply Kd.N_drew)); exact HO_6.out⟩, ⟨by (with_reducible repeat (first | apply Kd.N_alloc | apply Kd.N_drewN | apply Kd.N_drew)); exact HO_21.out⟩, ⟨by repeat (first | (with_reducible first | exact HB.out | apply below_alloc | apply pw_below_drewN | apply below_drew1) | exact HB.out)⟩⟩
                · rw [if_neg c16] at H
                  exact absurd H (by simp)
              · rw [if_neg c15] at H
                exact absurd H (by simp)
            · rw [if_neg c14] at H
              have c14b0 : decide (x23_2 < (y248.length : Int)) = false := decide_eq_false c14
              clear c14
              replace H := Option.bind_eq_some_iff.mp H
              obtain ⟨t251, A270, H⟩ := H
              replace H : (if t251 = true then (some (x6_2, 0)) else (some (([] : List (S70)), 3))) = some (r1, r2) := H
              have A27 := Aside0.mk A270
              clear A270
              by_cases c28 : t251 = true
              · subst c28
                have H1 : (some (x6_2, 0)) = some (r1, r2) := by rw [if_pos rfl] at H; exact H
                clear H
                have H := H1
                clear H1
                simp only [Option.some.injEq, Prod.mk.injEq] at H
                obtain ⟨rfl, rfl⟩ := H
                obtain ⟨Ao29, co29, eo29⟩ := Kd.N_slice HO_6.out
                subst eo29
                go_wp2_with (first | ((with_reducible refine gate_callee (f := 23) rfl ?_); refine goesL_ (some 39) rfl rfl Try.func23 (by kernel_rfl) rfl #[.slice Ao29 x6_2.length co29] rfl (by (try simp only [List.map_toArray, List.map_cons, List.map_nil]); first | done | rfl | (simp only [List.length_drop, List.length_take]; rfl)) ?_; (with_reducible refine (tlv_Right.calls k2 _ _ x6_2 true _ ?side1 ?side2 A27.out).mono ?_); (case side1 => repeat (first | exact (Kd.N_reads' HO_6.out).2.2 | (with_reducible refine Kd.C_alloc ?_ _) | (with_reducible refine Kd.C_drewN ?_ _) | (with_reducible refine Kd.C_drew ?_))); (case side2 => exact (Kd.N_reads' HO_6.out).2.1); rintro e w30 ⟨rfl, hb⟩; refine ⟨_, rfl, ?_⟩; have n0_ := Aside0.mk (Kd.N_below (by (with_reducible repeat (first | apply Kd.N_alloc | apply Kd.N_drewN | apply Kd.N_drew)); exact HO_6.out) hb); have n1_ := Aside0.mk (Kd.N_below (by (with_reducible repeat (first | apply Kd.N_alloc | apply Kd.N_drewN | apply Kd.N_drew)); exact HO_21.out) hb); have n2_ := Aside0.mk (below_step (by repeat (first | (with_reducible first | exact HB.out | apply below_alloc | apply pw_below_drewN | apply below_drew1) | exact HB.out)) hb); clear HO_6; clear HO_21; clear HB; have HO_6 := n0_; have HO_21 := n1_; have HB := n2_; clear n0_ n1_ n2_; (try clear hb); (try clear hb2); (try clear hk); (try clear hi)))
                go_ret2
                exact ⟨_, by first | rfl | (simp [errW_none, errW_some] <;> rfl) | (simp [*, errW_none, errW_some] <;> rfl), by (with_reducible repeat (first | apply Kd.N_alloc | apply Kd.N_drewN | apply Kd.N_drew)); exact Kd.N_mono HO_6.out (fun _ hk => hk.1), by repeat (first | (with_reducible first | exact HB.out | apply below_alloc | apply pw_below_drewN | apply below_drew1) | exact HB.out)⟩
              · replace c28 := Bool.eq_false_iff.mpr c28
                subst c28
                have H1 : (some (([] : List (S70)), 3)) = some (r1, r2) := by rw [if_neg (show ¬ (false = true) by decide)] at H; exact H
                clear H
                have H := H1
                clear H1
                simp only [Option.some.injEq, Prod.mk.injEq] at H
                obtain ⟨rfl, rfl⟩ := H
                obtain ⟨Ao31, co31, eo31⟩ := Kd.N_slice HO_6.out
                subst eo31
                go_wp2_with (first | ((with_reducible refine gate_callee (f := 23) rfl ?_); refine goesL_ (some 39) rfl rfl Try.func23 (by kernel_rfl) rfl #[.slice Ao31 x6_2.length co31] rfl (by (try simp only [List.map_toArray, List.map_cons, List.map_nil]); first | done | rfl | (simp only [List.length_drop, List.length_take]; rfl)) ?_; (with_reducible refine (tlv_Right.calls k2 _ _ x6_2 false _ ?side1 ?side2 A27.out).mono ?_); (case side1 => repeat (first | exact (Kd.N_reads' HO_6.out).2.2 | (with_reducible refine Kd.C_alloc ?_ _) | (with_reducible refine Kd.C_drewN ?_ _) | (with_reducible refine Kd.C_drew ?_))); (case side2 => exact (Kd.N_reads' HO_6.out).2.1); rintro e w32 ⟨rfl, hb⟩; refine ⟨_, rfl, ?_⟩; have n0_ := Aside0.mk (Kd.N_below (by (with_reducible repeat (first | apply Kd.N_alloc | apply Kd.N_drewN | apply Kd.N_drew)); exact HO_6.out) hb); have n1_ := Aside0.mk (Kd.N_below (by (with_reducible repeat (first | apply Kd.N_alloc | apply Kd.N_drewN | apply Kd.N_drew)); exact HO_21.out) hb); have n2_ := Aside0.mk (below_step (by repeat (first | (with_reducible first | exact HB.out | apply below_alloc | apply pw_below_drewN | apply below_drew1) | exact HB.out)) hb); clear HO_6; clear HO_21; clear HB; have HO_6 := n0_; have HO_21 := n1_; have HB := n2_; clear n0_ n1_ n2_; (try clear hb); (try clear hb2); (try clear hk); (try clear hi)))
                go_ret2
                exact ⟨_, by first | rfl | (simp [errW_none, errW_some] <;> rfl) | (simp [*, errW_none, errW_some] <;> rfl), by first | exact Kd.S_nil _ _ _ _ _ | exact Kd.N_nil _ _ _ _ _ | exact Kd.V_nil _ _ _ _ _ | exact Kd.Q_nil _ _ _ _ _ | exact Kd.R_nil _ _ _ _ _, by repeat (first | (with_reducible first | exact HB.out | apply below_alloc | apply pw_below_drewN | apply below_drew1) | exact HB.out)⟩

end Go.Proofs.Ytiklcnlehlpdaaa.PTlj
