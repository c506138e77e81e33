-- printed by a program of this session, made after the kit's own printer
import Derived.Test.YtiklcnlehlpdaaaPTlvx0
import Derived.Test.YtiklcnlehlpdaaaPTlvx1
import Derived.Test.YtiklcnlehlpdaaaPTlvx2
import Derived.Test.YtiklcnlehlpdaaaPTlvx4
namespace Go.Proofs.Ytiklcnlehlpdaaa.PTlv
open Go.RowKit Go.Proofs.YtiklcnlehlpdaaaW.PrintWords Go.Proofs.YtiklcnlehlpdaaaW.PrintLast Go.Proofs.YtiklcnlehlpdaaaW.PrintMore
attribute [local go_sem] max2_int min2_int max_two min_two max_three min_three max_four min_four   -- for this text's walks alone
set_option linter.unusedVariables false
set_option linter.unusedSimpArgs false

/-! ### boarderlaw03_knows: function 20 -/
def boarderlaw03_knows.f (k : Nat)  : Option (Bool) := (tlv_Write.f k (([(⟨53, (([1] : List Int))⟩ : S70), (⟨12, ([] : List Int)⟩ : S70)] : List (S70)))).bind fun bt214 => ((tlv_Read.f k (([0, 53, 1, 1, 12, 0, 255, 7] : List Int))).bind fun bt222 => ((tlv_Find.f k bt222.1 53).bind fun bt226 => (if 300 ≤ 281474976710656 then ((tlv_Write.f k (([(⟨9, (List.replicate 300 0)⟩ : S70)] : List (S70)))).bind fun bt236 => (if (strOfNums bt214.1).toList = ([53, 1, 1, 12, 0, 255] : List UInt8) then (if bt214.2 = 0 then (if (bt222.1.length : Int) = 2 then (if 1 < (bt222.1.length : Int) then (if ((rd_T70 bt222.1 1).f0) = 12 then (if bt222.2 = 0 then (if (strOfNums bt226.1).toList = ([1] : List UInt8) then (if bt226.2 = true then (if (bt236.1.length : Int) = 305 then (if bt236.2 = 0 then ((tlv_Right.f k bt222.1).bind fun t241 => (some t241)) else (some false)) else (some false)) else (some false)) else (some false)) else (some false)) else (some false)) else (none)) else (some false)) else (some false)) else (some false))) else (none))))
theorem boarderlaw03_knows.mono : ∀ k, LeO (boarderlaw03_knows.f k ) (boarderlaw03_knows.f (k + 1) ) := by
  intro  k
  unfold boarderlaw03_knows.f
  repeat' first
      | (with_reducible exact tlv_Find.mono _ _ _)
      | (with_reducible exact tlv_Read.mono _ _)
      | (with_reducible exact tlv_Right.mono _ _)
      | (with_reducible exact tlv_Write.mono _ _)
      | (with_reducible exact LeO.refl _)
      | (with_reducible exact LeO.none _)
      | (with_reducible refine LeO.ite ?_ ?_)
      | (with_reducible refine LeO.bind ?_ (fun _ => ?_))
      | exact tlv_Find.mono _ _ _
      | exact tlv_Read.mono _ _
      | exact tlv_Right.mono _ _
      | exact tlv_Write.mono _ _
      | exact LeO.none _
      | refine LeO.ite ?_ ?_
      | refine LeO.bind ?_ (fun _ => ?_)
set_option maxHeartbeats 8000000 in
set_option maxRecDepth 100000 in
theorem boarderlaw03_knows.calls (k : Nat)  (r : Bool) (w : World) (h : boarderlaw03_knows.f k  = some r) :
    Calls Try.prog 20 #[] w fun e w' => e = .returned (.bool r) ∧ Below w.heap.size w w' := by
  have hu70 := Try.underlying70
  have HB := Aside0.mk (Below.refl w.heap.size w)
  have H : ((tlv_Write.f k (([(⟨53, (([1] : List Int))⟩ : S70), (⟨12, ([] : List Int)⟩ : S70)] : List (S70)))).bind fun bt214 => ((tlv_Read.f k (([0, 53, 1, 1, 12, 0, 255, 7] : List Int))).bind fun bt222 => ((tlv_Find.f k bt222.1 53).bind fun bt226 => (if 300 ≤ 281474976710656 then ((tlv_Write.f k (([(⟨9, (List.replicate 300 0)⟩ : S70)] : List (S70)))).bind fun bt236 => (if (strOfNums bt214.1).toList = ([53, 1, 1, 12, 0, 255] : List UInt8) then (if bt214.2 = 0 then (if (bt222.1.length : Int) = 2 then (if 1 < (bt222.1.length : Int) then (if ((rd_T70 bt222.1 1).f0) = 12 then (if bt222.2 = 0 then (if (strOfNums bt226.1).toList = ([1] : List UInt8) then (if bt226.2 = true then (if (bt236.1.length : Int) = 305 then (if bt236.2 = 0 then ((tlv_Right.f k bt222.1).bind fun t241 => (some t241)) else (some false)) else (some false)) else (some false)) else (some false)) else (some false)) else (some false)) else (none)) else (some false)) else (some false)) else (some false))) else (none))))) = some r := h
  clear h
  obtain ⟨y208, hy208⟩ : ∃ y_ : List Int, y_ = (([1] : List Int)) := ⟨_, rfl⟩
  replace H : ((tlv_Write.f k (([(⟨53, y208⟩ : S70), (⟨12, ([] : List Int)⟩ : S70)] : List (S70)))).bind fun bt214 => ((tlv_Read.f k (([0, 53, 1, 1, 12, 0, 255, 7] : List Int))).bind fun bt222 => ((tlv_Find.f k bt222.1 53).bind fun bt226 => (if 300 ≤ 281474976710656 then ((tlv_Write.f k (([(⟨9, (List.replicate 300 0)⟩ : S70)] : List (S70)))).bind fun bt236 => (if (strOfNums bt214.1).toList = ([53, 1, 1, 12, 0, 255] : List UInt8) then (if bt214.2 = 0 then (if (bt222.1.length : Int) = 2 then (if 1 < (bt222.1.length : Int) then (if ((rd_T70 bt222.1 1).f0) = 12 then (if bt222.2 = 0 then (if (strOfNums bt226.1).toList = ([1] : List UInt8) then (if bt226.2 = true then (if (bt236.1.length : Int) = 305 then (if bt236.2 = 0 then ((tlv_Right.f k bt222.1).bind fun t241 => (some t241)) else (some false)) else (some false)) else (some false)) else (some false)) else (some false)) else (some false)) else (none)) else (some false)) else (some false)) else (some false))) else (none))))) = some r := by first | (rw [hy208]; with_reducible exact H) | (have H2_ := (Option.bind_some _ _).symm.trans H; rw [hy208]; with_reducible exact H2_) | (have H2_ := (Option.bind_some _ _).symm.trans H; with_reducible exact H2_) | with_reducible exact H | (rw [hy208]; exact H) | exact H
  have Ny208 := Aside0.mk hy208
  clear hy208
  obtain ⟨y211, hy211⟩ : ∃ y_ : List (S70), y_ = (([(⟨53, y208⟩ : S70), (⟨12, ([] : List Int)⟩ : S70)] : List (S70))) := ⟨_, rfl⟩
  replace H : ((tlv_Write.f k y211).bind fun bt214 => ((tlv_Read.f k (([0, 53, 1, 1, 12, 0, 255, 7] : List Int))).bind fun bt222 => ((tlv_Find.f k bt222.1 53).bind fun bt226 => (if 300 ≤ 281474976710656 then ((tlv_Write.f k (([(⟨9, (List.replicate 300 0)⟩ : S70)] : List (S70)))).bind fun bt236 => (if (strOfNums bt214.1).toList = ([53, 1, 1, 12, 0, 255] : List UInt8) then (if bt214.2 = 0 then (if (bt222.1.length : Int) = 2 then (if 1 < (bt222.1.length : Int) then (if ((rd_T70 bt222.1 1).f0) = 12 then (if bt222.2 = 0 then (if (strOfNums bt226.1).toList = ([1] : List UInt8) then (if bt226.2 = true then (if (bt236.1.length : Int) = 305 then (if bt236.2 = 0 then ((tlv_Right.f k bt222.1).bind fun t241 => (some t241)) else (some false)) else (some false)) else (some false)) else (some false)) else (some false)) else (some false)) else (none)) else (some false)) else (some false)) else (some false))) else (none))))) = some r := by first | (rw [hy211]; with_reducible exact H) | (have H2_ := (Option.bind_some _ _).symm.trans H; rw [hy211]; with_reducible exact H2_) | (have H2_ := (Option.bind_some _ _).symm.trans H; with_reducible exact H2_) | with_reducible exact H | (rw [hy211]; exact H) | exact H
  have Ny211 := Aside0.mk hy211
  clear hy211
  replace H := Option.bind_eq_some_iff.mp H
  obtain ⟨⟨t214, t217⟩, A10, H⟩ := H
  replace H : ((tlv_Read.f k (([0, 53, 1, 1, 12, 0, 255, 7] : List Int))).bind fun bt222 => ((tlv_Find.f k bt222.1 53).bind fun bt226 => (if 300 ≤ 281474976710656 then ((tlv_Write.f k (([(⟨9, (List.replicate 300 0)⟩ : S70)] : List (S70)))).bind fun bt236 => (if (strOfNums t214).toList = ([53, 1, 1, 12, 0, 255] : List UInt8) then (if t217 = 0 then (if (bt222.1.length : Int) = 2 then (if 1 < (bt222.1.length : Int) then (if ((rd_T70 bt222.1 1).f0) = 12 then (if bt222.2 = 0 then (if (strOfNums bt226.1).toList = ([1] : List UInt8) then (if bt226.2 = true then (if (bt236.1.length : Int) = 305 then (if bt236.2 = 0 then ((tlv_Right.f k bt222.1).bind fun t241 => (some t241)) else (some false)) else (some false)) else (some false)) else (some false)) else (some false)) else (some false)) else (none)) else (some false)) else (some false)) else (some false))) else (none)))) = some r := H
  have A1 := Aside0.mk A10
  clear A10
  obtain ⟨y219, hy219⟩ : ∃ y_ : List Int, y_ = (([0, 53, 1, 1, 12, 0, 255, 7] : List Int)) := ⟨_, rfl⟩
  replace H : ((tlv_Read.f k y219).bind fun bt222 => ((tlv_Find.f k bt222.1 53).bind fun bt226 => (if 300 ≤ 281474976710656 then ((tlv_Write.f k (([(⟨9, (List.replicate 300 0)⟩ : S70)] : List (S70)))).bind fun bt236 => (if (strOfNums t214).toList = ([53, 1, 1, 12, 0, 255] : List UInt8) then (if t217 = 0 then (if (bt222.1.length : Int) = 2 then (if 1 < (bt222.1.length : Int) then (if ((rd_T70 bt222.1 1).f0) = 12 then (if bt222.2 = 0 then (if (strOfNums bt226.1).toList = ([1] : List UInt8) then (if bt226.2 = true then (if (bt236.1.length : Int) = 305 then (if bt236.2 = 0 then ((tlv_Right.f k bt222.1).bind fun t241 => (some t241)) else (some false)) else (some false)) else (some false)) else (some false)) else (some false)) else (some false)) else (none)) else (some false)) else (some false)) else (some false))) else (none)))) = some r := by first | (rw [hy219]; with_reducible exact H) | (have H2_ := (Option.bind_some _ _).symm.trans H; rw [hy219]; with_reducible exact H2_) | (have H2_ := (Option.bind_some _ _).symm.trans H; with_reducible exact H2_) | with_reducible exact H | (rw [hy219]; exact H) | exact H
  have Ny219 := Aside0.mk hy219
  clear hy219
  replace H := Option.bind_eq_some_iff.mp H
  obtain ⟨⟨t222, t225⟩, A20, H⟩ := H
  replace H : ((tlv_Find.f k t222 53).bind fun bt226 => (if 300 ≤ 281474976710656 then ((tlv_Write.f k (([(⟨9, (List.replicate 300 0)⟩ : S70)] : List (S70)))).bind fun bt236 => (if (strOfNums t214).toList = ([53, 1, 1, 12, 0, 255] : List UInt8) then (if t217 = 0 then (if (t222.length : Int) = 2 then (if 1 < (t222.length : Int) then (if ((rd_T70 t222 1).f0) = 12 then (if t225 = 0 then (if (strOfNums bt226.1).toList = ([1] : List UInt8) then (if bt226.2 = true then (if (bt236.1.length : Int) = 305 then (if bt236.2 = 0 then ((tlv_Right.f k t222).bind fun t241 => (some t241)) else (some false)) else (some false)) else (some false)) else (some false)) else (some false)) else (some false)) else (none)) else (some false)) else (some false)) else (some false))) else (none))) = some r := H
  have A2 := Aside0.mk A20
  clear A20
  replace H := Option.bind_eq_some_iff.mp H
  obtain ⟨⟨t226, t227⟩, A30, H⟩ := H
  replace H : (if 300 ≤ 281474976710656 then ((tlv_Write.f k (([(⟨9, (List.replicate 300 0)⟩ : S70)] : List (S70)))).bind fun bt236 => (if (strOfNums t214).toList = ([53, 1, 1, 12, 0, 255] : List UInt8) then (if t217 = 0 then (if (t222.length : Int) = 2 then (if 1 < (t222.length : Int) then (if ((rd_T70 t222 1).f0) = 12 then (if t225 = 0 then (if (strOfNums t226).toList = ([1] : List UInt8) then (if t227 = true then (if (bt236.1.length : Int) = 305 then (if bt236.2 = 0 then ((tlv_Right.f k t222).bind fun t241 => (some t241)) else (some false)) else (some false)) else (some false)) else (some false)) else (some false)) else (some false)) else (none)) else (some false)) else (some false)) else (some false))) else (none)) = some r := H
  have A3 := Aside0.mk A30
  clear A30
  by_cases c4 : 300 ≤ 281474976710656
  · rw [if_pos c4] at H
    have c4b0 := eq_true c4
    have c4b1 : decide (300 ≤ 281474976710656) = true := decide_eq_true c4
    clear c4
    obtain ⟨y230, hy230⟩ : ∃ y_ : List Int, y_ = (List.replicate 300 0) := ⟨_, rfl⟩
    replace H : ((tlv_Write.f k (([(⟨9, y230⟩ : S70)] : List (S70)))).bind fun bt236 => (if (strOfNums t214).toList = ([53, 1, 1, 12, 0, 255] : List UInt8) then (if t217 = 0 then (if (t222.length : Int) = 2 then (if 1 < (t222.length : Int) then (if ((rd_T70 t222 1).f0) = 12 then (if t225 = 0 then (if (strOfNums t226).toList = ([1] : List UInt8) then (if t227 = true then (if (bt236.1.length : Int) = 305 then (if bt236.2 = 0 then ((tlv_Right.f k t222).bind fun t241 => (some t241)) else (some false)) else (some false)) else (some false)) else (some false)) else (some false)) else (some false)) else (none)) else (some false)) else (some false)) else (some false))) = some r := by first | (rw [hy230]; with_reducible exact H) | (have H2_ := (Option.bind_some _ _).symm.trans H; rw [hy230]; with_reducible exact H2_) | (have H2_ := (Option.bind_some _ _).symm.trans H; with_reducible exact H2_) | with_reducible exact H | (rw [hy230]; exact H) | exact H
    have Ny230 := Aside0.mk hy230
    clear hy230
    obtain ⟨y233, hy233⟩ : ∃ y_ : List (S70), y_ = (([(⟨9, y230⟩ : S70)] : List (S70))) := ⟨_, rfl⟩
    replace H : ((tlv_Write.f k y233).bind fun bt236 => (if (strOfNums t214).toList = ([53, 1, 1, 12, 0, 255] : List UInt8) then (if t217 = 0 then (if (t222.length : Int) = 2 then (if 1 < (t222.length : Int) then (if ((rd_T70 t222 1).f0) = 12 then (if t225 = 0 then (if (strOfNums t226).toList = ([1] : List UInt8) then (if t227 = true then (if (bt236.1.length : Int) = 305 then (if bt236.2 = 0 then ((tlv_Right.f k t222).bind fun t241 => (some t241)) else (some false)) else (some false)) else (some false)) else (some false)) else (some false)) else (some false)) else (none)) else (some false)) else (some false)) else (some false))) = some r := by first | (rw [hy233]; with_reducible exact H) | (have H2_ := (Option.bind_some _ _).symm.trans H; rw [hy233]; with_reducible exact H2_) | (have H2_ := (Option.bind_some _ _).symm.trans H; with_reducible exact H2_) | with_reducible exact H | (rw [hy233]; exact H) | exact H
    have Ny233 := Aside0.mk hy233
    clear hy233
    replace H := Option.bind_eq_some_iff.mp H
    obtain ⟨⟨t236, t239⟩, A50, H⟩ := H
    replace H : (if (strOfNums t214).toList = ([53, 1, 1, 12, 0, 255] : List UInt8) then (if t217 = 0 then (if (t222.length : Int) = 2 then (if 1 < (t222.length : Int) then (if ((rd_T70 t222 1).f0) = 12 then (if t225 = 0 then (if (strOfNums t226).toList = ([1] : List UInt8) then (if t227 = true then (if (t236.length : Int) = 305 then (if t239 = 0 then ((tlv_Right.f k t222).bind fun t241 => (some t241)) else (some false)) else (some false)) else (some false)) else (some false)) else (some false)) else (some false)) else (none)) else (some false)) else (some false)) else (some false)) = some r := H
    have A5 := Aside0.mk A50
    clear A50
    have HS6 := Aside0.mk H
    clear H
    go_enter Try.func20, Try.ntmps20
    go_wp2_with (first | ((with_reducible refine gate_dst (N := 10) rfl ?_); (try (refine gate_guard (by rfl) ?_; dsimp only)); refine Kd.R_lit (Kd.int .u8) _ 5 ?hg (N := 10) ?hd (xs := ([1] : List Int)) (inner := [.int .u8 1]) (ok := fun _ => True) (okp := fun _ => True) ?hr ?hp (fun _ hk => hk) trivial (Below.refl _ _) (Nat.le_refl _) (by simp) ?_; (case hd => rfl); (case hg => rfl); (case hr => first | (go_simp; done) | (go_simp; rfl) | (go_simp; (try simp only [u8_w, u32_w]); first | done | rfl)); (case hp => exact (Reps.one (show Kd.M (Kd.int .u8) _ _ _ 1 [.int .u8 1] from rfl) (Reps.none _ _))); intro v209 w7 ho8 hb hg_ hnew_; clear hg_ hnew_; (first | rw [← Ny208.out] at ho8 | (simp only [Int.reduceToNat] at ho8; rw [← Ny208.out] at ho8)); have n0_ := Aside0.mk (Kd.R_lower ho8 (below_size (by repeat (first | (with_reducible first | exact HB.out | apply below_alloc | apply pw_below_drewN | apply below_drew1) | exact HB.out)))); have n1_ := Aside0.mk (below_step (by repeat (first | (with_reducible first | exact HB.out | apply below_alloc | apply pw_below_drewN | apply below_drew1) | exact HB.out)) hb); clear HB; have HO210 := n0_; have HB := n1_; clear n0_ n1_; clear hb ho8; obtain ⟨Ao9, co9, eo9⟩ := Kd.R_slice HO210.out; subst eo9) | ((with_reducible refine gate_dst (N := 13) rfl ?_); (try (refine gate_guard (by rfl) ?_; dsimp only)); refine Kd.N_lit k70 _ 70 ?hg (N' := 13) ?hd (xs := ([(⟨53, y208⟩ : S70), (⟨12, ([] : List Int)⟩ : S70)] : List (S70))) (inner := [.int .i64 53, .slice Ao9 y208.length co9, .int .i64 12, .slice none 0 0]) (ok := (fun _ => True)) (okp := (fun _ => True)) ?hr ?hp (fun _ hk => hk) ((show ∀ k_, w7.heap.size ≤ k_ → (fun _ => True) k_ from fun k_ hk => trivial) _ (Nat.le_refl _)) (Below.refl _ _) (Nat.le_refl _) (by simp) ?_; (case hd => rfl); (case hg => rfl); (case hr => first | (go_simp; done) | (go_simp; rfl) | (go_simp; (try simp only [u8_w, u32_w]); first | done | rfl)); (case hp => exact (Reps.c2 (show Kd.FK k70 _ _ (⟨53, y208⟩ : S70) [.int .i64 53, .slice Ao9 y208.length co9] from (k70_mkF _ _ (⟨53, y208⟩ : S70) (Kd.R_reads' (Kd.R_mono (ok' := (fun _ => True)) (HO210.out) (fun k_ hk => trivial))).2.1 (Kd.R_F (Kd.R_mono (ok' := (fun _ => True)) (HO210.out) (fun k_ hk => trivial))))) (Reps.c2 (show Kd.FK k70 _ _ (⟨12, ([] : List Int)⟩ : S70) [.int .i64 12, .slice none 0 0] from (k70_mkF _ _ (⟨12, ([] : List Int)⟩ : S70) (Nat.le_refl _) (Kd.F_nil _ _ _))) (Reps.none _ _)))); intro v212 w10 ho11 hb hg_ hnew_; clear hg_ hnew_; (first | rw [← Ny211.out] at ho11 | (simp only [Int.reduceToNat] at ho11; rw [← Ny211.out] at ho11)); have n0_ := Aside0.mk (Kd.N_lower ho11 (below_size (by repeat (first | (with_reducible first | exact HB.out | apply below_alloc | apply pw_below_drewN | apply below_drew1) | exact HB.out)))); have n1_ := Aside0.mk (below_step (by repeat (first | (with_reducible first | exact HB.out | apply below_alloc | apply pw_below_drewN | apply below_drew1) | exact HB.out)) hb); clear HB; clear HO210; have HO213 := n0_; have HB := n1_; clear n0_ n1_; clear hb ho11; obtain ⟨Ao12, co12, eo12⟩ := Kd.N_slice HO213.out; subst eo12) | ((with_reducible refine gate_callee (f := 25) rfl ?_); refine goesL_ (some 14) rfl rfl Try.func25 (by kernel_rfl) rfl #[.slice Ao12 y211.length co12] rfl (by (try simp only [List.map_toArray, List.map_cons, List.map_nil]); first | done | rfl | (simp only [List.length_drop, List.length_take]; rfl)) ?_; (with_reducible refine (tlv_Write.calls k (fun k_ => True) _ _ y211 t214 t217 _ ?side1 A1.out).mono ?_); (case side1 => exact Kd.N_V (HO213.out)); rintro e w13 ⟨v215, rfl, ho0, hb⟩; refine ⟨_, rfl, ?_⟩; have n0_ := Aside0.mk (Kd.N_elder' (by (with_reducible repeat (first | apply Kd.N_alloc | apply Kd.N_drewN | apply Kd.N_drew)); exact HO213.out) (Kd.R_base ho0) hb); have n1_ := Aside0.mk (Kd.R_lower (Kd.R_mono (ok' := fun k_ => True) ho0 (fun _ hk_ => trivial)) (below_size (by repeat (first | (with_reducible first | exact HB.out | apply below_alloc | apply pw_below_drewN | apply below_drew1) | exact HB.out)))); have n2_ := Aside0.mk (below_step (by repeat (first | (with_reducible first | exact HB.out | apply below_alloc | apply pw_below_drewN | apply below_drew1) | exact HB.out)) hb); clear HO213; clear HB; have HO213 := n0_; have HO216 := n1_; have HB := n2_; clear n0_ n1_ n2_; (try clear hb); (try clear hb2); (try clear hk); (try clear hi); (try clear ho0); (try clear A1)) | ((with_reducible refine gate_dst (N := 18) rfl ?_); (try (refine gate_guard (by rfl) ?_; dsimp only)); refine lit_markV (N := 18) (N2 := 19) (t := 25) Try.underlying25 Try.underlying5 ?hg ?hd ?hd2 ?hw2 (xs := ([0, 53, 1, 1, 12, 0, 255, 7] : List Int)) (inner := [.int .u8 0, .int .u8 53, .int .u8 1, .int .u8 1, .int .u8 12, .int .u8 0, .int .u8 255, .int .u8 7]) ?hx (by simp) ?hr ?hr2 ?_; (case hd => rfl); (case hd2 => rfl); (case hg => rfl); (case hw2 => intro v_; rfl); (case hx => rfl); (case hr => first | (go_simp; done) | (go_simp; rfl)); (case hr2 => intro v_; rfl); intro v218 w14 hm218 hb; rw [← Ny219.out] at hm218; have hmc218 := True.intro; have n0_ := Aside0.mk (Kd.N_below (by (with_reducible repeat (first | apply Kd.N_alloc | apply Kd.N_drewN | apply Kd.N_drew)); exact HO213.out) hb); have n1_ := Aside0.mk (Kd.R_below (by (with_reducible repeat (first | apply Kd.R_alloc | apply Kd.R_drewN | apply Kd.R_drew)); exact HO216.out) hb); have n2_ := Aside0.mk (Kd.V_lower (Kd.V_mono (ok' := fun k_ => some k_ ≠ (.slice Ao12 y211.length co12 : Value).ownBlock ∧ some k_ ≠ (v215 : Value).ownBlock) hm218 (fun k_ hk_ => ⟨(Kd.fresh' (Kd.N_lt (by (with_reducible repeat (first | apply Kd.N_alloc | apply Kd.N_drewN | apply Kd.N_drew)); exact HO213.out)) k_ hk_), (Kd.fresh' (Kd.R_lt (by (with_reducible repeat (first | apply Kd.R_alloc | apply Kd.R_drewN | apply Kd.R_drew)); exact HO216.out)) k_ hk_)⟩)) (below_size (by repeat (first | (with_reducible first | exact HB.out | apply below_alloc | apply pw_below_drewN | apply below_drew1) | exact HB.out)))); have n3_ := Aside0.mk (below_step (by repeat (first | (with_reducible first | exact HB.out | apply below_alloc | apply pw_below_drewN | apply below_drew1) | exact HB.out)) hb); clear HO213; clear HO216; clear HB; have HO213 := n0_; have HO216 := n1_; have HO218 := n2_; have HB := n3_; clear n0_ n1_ n2_ n3_; clear hb hm218 hmc218; obtain ⟨Ao15, co15, eo15⟩ := Kd.V_slice HO218.out; subst eo15) | ((with_reducible refine gate_callee (f := 27) rfl ?_); refine goesL_ (some 20) rfl rfl Try.func27 (by kernel_rfl) rfl #[.slice Ao15 y219.length co15] rfl (by (try simp only [List.map_toArray, List.map_cons, List.map_nil]); first | done | rfl | (simp only [List.length_drop, List.length_take]; rfl)) ?_; (with_reducible refine (tlv_Read.calls k (fun k_ => (some k_ ≠ (.slice Ao12 y211.length co12 : Value).ownBlock ∧ some k_ ≠ (v215 : Value).ownBlock)) _ _ y219 t222 t225 _ ?side1 A2.out).mono ?_); (case side1 => exact HO218.out); rintro e w16 ⟨v223, rfl, ho0, hb⟩; refine ⟨_, rfl, ?_⟩; have n0_ := Aside0.mk (Kd.N_elder' (by (with_reducible repeat (first | apply Kd.N_alloc | apply Kd.N_drewN | apply Kd.N_drew)); exact HO213.out) (Kd.N_base ho0) hb); have n1_ := Aside0.mk (Kd.R_below (by (with_reducible repeat (first | apply Kd.R_alloc | apply Kd.R_drewN | apply Kd.R_drew)); exact HO216.out) hb); have n2_ := Aside0.mk (Kd.V_elder' (by (with_reducible repeat (first | apply Kd.V_alloc | apply Kd.V_drewN | apply Kd.V_drew)); exact HO218.out) (Kd.N_base ho0) hb); have n3_ := Aside0.mk (Kd.N_lower (Kd.N_mono (ok' := fun k_ => some k_ ≠ (.slice Ao12 y211.length co12 : Value).ownBlock ∧ some k_ ≠ (v215 : Value).ownBlock) ho0 (fun k_ hk_ => ⟨Or.elim hk_ (fun hs_ => hs_.1) (fun hn_ => (Kd.fresh' (Kd.N_lt (by (with_reducible repeat (first | apply Kd.N_alloc | apply Kd.N_drewN | apply Kd.N_drew)); exact HO213.out)) k_ hn_)), Or.elim hk_ (fun hs_ => hs_.2) (fun hn_ => (Kd.fresh' (Kd.R_lt (by (with_reducible repeat (first | apply Kd.R_alloc | apply Kd.R_drewN | apply Kd.R_drew)); exact HO216.out)) k_ hn_))⟩)) (below_size (by repeat (first | (with_reducible first | exact HB.out | apply below_alloc | apply pw_below_drewN | apply below_drew1) | exact HB.out)))); have n4_ := Aside0.mk (below_step (by repeat (first | (with_reducible first | exact HB.out | apply below_alloc | apply pw_below_drewN | apply below_drew1) | exact HB.out)) hb); clear HO213; clear HO216; clear HO218; clear HB; have HO213 := n0_; have HO216 := n1_; have HO218 := n2_; have HO224 := n3_; have HB := n4_; clear n0_ n1_ n2_ n3_ n4_; (try clear hb); (try clear hb2); (try clear hk); (try clear hi); (try clear ho0); (try clear A2); obtain ⟨Ao17, co17, eo17⟩ := Kd.N_slice HO224.out; subst eo17) | ((with_reducible refine gate_callee (f := 21) rfl ?_); refine goesL_ (some 25) rfl rfl Try.func21 (by kernel_rfl) rfl #[.slice Ao17 t222.length co17, .int .i64 53] rfl (by (try simp only [List.map_toArray, List.map_cons, List.map_nil]); first | done | rfl | (simp only [List.length_drop, List.length_take]; rfl)) ?_; (with_reducible refine (tlv_Find.calls k _ _ t222 53 t226 t227 _ ?side1 ?side2 A3.out).mono ?_); (case side1 => repeat (first | exact (Kd.N_reads' HO224.out).2.2 | (with_reducible refine Kd.C_alloc ?_ _) | (with_reducible refine Kd.C_drewN ?_ _) | (with_reducible refine Kd.C_drew ?_))); (case side2 => exact (Kd.N_reads' HO224.out).2.1); rintro e w18 ⟨v228, rfl, ho0, hb⟩; refine ⟨_, rfl, ?_⟩; have n0_ := Aside0.mk (Kd.N_elder' (by (with_reducible repeat (first | apply Kd.N_alloc | apply Kd.N_drewN | apply Kd.N_drew)); exact HO213.out) (Kd.R_base ho0) hb); have n1_ := Aside0.mk (Kd.R_elder' (by (with_reducible repeat (first | apply Kd.R_alloc | apply Kd.R_drewN | apply Kd.R_drew)); exact HO216.out) (Kd.R_base ho0) hb); have n2_ := Aside0.mk (Kd.V_elder' (by (with_reducible repeat (first | apply Kd.V_alloc | apply Kd.V_drewN | apply Kd.V_drew)); exact HO218.out) (Kd.R_base ho0) hb); have n3_ := Aside0.mk (Kd.N_elder' (by (with_reducible repeat (first | apply Kd.N_alloc | apply Kd.N_drewN | apply Kd.N_drew)); exact HO224.out) (Kd.R_base ho0) hb); have n4_ := Aside0.mk (Kd.R_lower (Kd.R_new' ho0 (Kd.R_lt (by (with_reducible repeat (first | apply Kd.R_alloc | apply Kd.R_drewN | apply Kd.R_drew)); exact HO216.out))) (below_size (by repeat (first | (with_reducible first | exact HB.out | apply below_alloc | apply pw_below_drewN | apply below_drew1) | exact HB.out)))); have n5_ := Aside0.mk (below_step (by repeat (first | (with_reducible first | exact HB.out | apply below_alloc | apply pw_below_drewN | apply below_drew1) | exact HB.out)) hb); clear HO213; clear HO216; clear HO218; clear HO224; clear HB; have HO213 := n0_; have HO216 := n1_; have HO218 := n2_; have HO224 := n3_; have HO229 := n4_; have HB := n5_; clear n0_ n1_ n2_ n3_ n4_ n5_; (try clear hb); (try clear hb2); (try clear hk); (try clear hi); (try clear ho0); (try clear A3)) | ((with_reducible refine gate_dst (N := 29) rfl ?_); (try (refine gate_guard (by rfl) ?_; dsimp only)); refine Kd.R_make (Kd.int .u8) _ 5 rfl (N := 29) rfl 25 _ _ rfl 300 rfl rfl Try.underlying25 (.int .u8 0) 1 info5 rfl (by decide) (by omega) 0 (ok := fun _ => True) (okp := fun _ => True) rfl (fun _ hk => hk) trivial (by omega) (by omega) (Below.refl _ _) (Nat.le_refl _) ?_; intro v231 w19 ho20 hb hg_ hnew_; clear hg_ hnew_; (first | rw [← Ny230.out] at ho20 | (simp only [Int.reduceToNat] at ho20; rw [← Ny230.out] at ho20)); have n0_ := Aside0.mk (Kd.N_elder' (by (with_reducible repeat (first | apply Kd.N_alloc | apply Kd.N_drewN | apply Kd.N_drew)); exact HO213.out) (Kd.R_base ho20) hb); have n1_ := Aside0.mk (Kd.R_elder' (by (with_reducible repeat (first | apply Kd.R_alloc | apply Kd.R_drewN | apply Kd.R_drew)); exact HO216.out) (Kd.R_base ho20) hb); have n2_ := Aside0.mk (Kd.V_elder' (by (with_reducible repeat (first | apply Kd.V_alloc | apply Kd.V_drewN | apply Kd.V_drew)); exact HO218.out) (Kd.R_base ho20) hb); have n3_ := Aside0.mk (Kd.N_elder' (by (with_reducible repeat (first | apply Kd.N_alloc | apply Kd.N_drewN | apply Kd.N_drew)); exact HO224.out) (Kd.R_base ho20) hb); have n4_ := Aside0.mk (Kd.R_elder' (by (with_reducible repeat (first | apply Kd.R_alloc | apply Kd.R_drewN | apply Kd.R_drew)); exact HO229.out) (Kd.R_base ho20) hb); have n5_ := Aside0.mk (Kd.R_lower (Kd.R_new' (Kd.R_new' ho20 (Kd.R_lt (by (with_reducible repeat (first | apply Kd.R_alloc | apply Kd.R_drewN | apply Kd.R_drew)); exact HO216.out))) (Kd.R_lt (by (with_reducible repeat (first | apply Kd.R_alloc | apply Kd.R_drewN | apply Kd.R_drew)); exact HO229.out))) (below_size (by repeat (first | (with_reducible first | exact HB.out | apply below_alloc | apply pw_below_drewN | apply below_drew1) | exact HB.out)))); have n6_ := Aside0.mk (below_step (by repeat (first | (with_reducible first | exact HB.out | apply below_alloc | apply pw_below_drewN | apply below_drew1) | exact HB.out)) hb); clear HO213; clear HO216; clear HO218; clear HO224; clear HO229; clear HB; have HO213 := n0_; have HO216 := n1_; have HO218 := n2_; have HO224 := n3_; have HO229 := n4_; have HO232 := n5_; have HB := n6_; clear n0_ n1_ n2_ n3_ n4_ n5_ n6_; clear hb ho20; obtain ⟨Ao21, co21, eo21⟩ := Kd.R_slice HO232.out; subst eo21) | ((with_reducible refine gate_dst (N := 31) rfl ?_); (try (refine gate_guard (by rfl) ?_; dsimp only)); refine Kd.N_lit k70 _ 70 ?hg (N' := 31) ?hd (xs := ([(⟨9, y230⟩ : S70)] : List (S70))) (inner := [.int .i64 9, .slice Ao21 y230.length co21]) (ok := (fun k_ => some k_ ≠ (.slice Ao12 y211.length co12 : Value).ownBlock ∧ some k_ ≠ (v215 : Value).ownBlock ∧ some k_ ≠ (.slice Ao17 t222.length co17 : Value).ownBlock ∧ some k_ ≠ (v228 : Value).ownBlock)) (okp := (fun k_ => some k_ ≠ (.slice Ao12 y211.length co12 : Value).ownBlock ∧ some k_ ≠ (v215 : Value).ownBlock ∧ some k_ ≠ (.slice Ao17 t222.length co17 : Value).ownBlock ∧ some k_ ≠ (v228 : Value).ownBlock)) ?hr ?hp (fun _ hk => hk) ((show ∀ k_, w19.heap.size ≤ k_ → (fun k_ => some k_ ≠ (.slice Ao12 y211.length co12 : Value).ownBlock ∧ some k_ ≠ (v215 : Value).ownBlock ∧ some k_ ≠ (.slice Ao17 t222.length co17 : Value).ownBlock ∧ some k_ ≠ (v228 : Value).ownBlock) k_ from fun k_ hk => ⟨Kd.fresh' (Kd.N_lt (by (with_reducible repeat (first | apply Kd.N_alloc | apply Kd.N_drewN | apply Kd.N_drew)); exact HO213.out)) k_ hk, Kd.fresh' (Kd.R_lt (by (with_reducible repeat (first | apply Kd.R_alloc | apply Kd.R_drewN | apply Kd.R_drew)); exact HO216.out)) k_ hk, Kd.fresh' (Kd.N_lt (by (with_reducible repeat (first | apply Kd.N_alloc | apply Kd.N_drewN | apply Kd.N_drew)); exact HO224.out)) k_ hk, Kd.fresh' (Kd.R_lt (by (with_reducible repeat (first | apply Kd.R_alloc | apply Kd.R_drewN | apply Kd.R_drew)); exact HO229.out)) k_ hk⟩) _ (Nat.le_refl _)) (Below.refl _ _) (Nat.le_refl _) (by simp) ?_; (case hd => rfl); (case hg => rfl); (case hr => first | (go_simp; done) | (go_simp; rfl) | (go_simp; (try simp only [u8_w, u32_w]); first | done | rfl)); (case hp => exact (Reps.c2 (show Kd.FK k70 _ _ (⟨9, y230⟩ : S70) [.int .i64 9, .slice Ao21 y230.length co21] from (k70_mkF _ _ (⟨9, y230⟩ : S70) (Kd.R_reads' (Kd.R_mono (ok' := (fun k_ => some k_ ≠ (.slice Ao12 y211.length co12 : Value).ownBlock ∧ some k_ ≠ (v215 : Value).ownBlock ∧ some k_ ≠ (.slice Ao17 t222.length co17 : Value).ownBlock ∧ some k_ ≠ (v228 : Value).ownBlock)) (Kd.R_apart' (Kd.R_apart' (HO232.out) (Kd.N_typed HO213.out) (by decide)) (Kd.N_typed HO224.out) (by decide)) (fun k_ hk => ⟨hk.1.2, ⟨hk.1.1.1.2, ⟨hk.2, hk.1.1.2⟩⟩⟩))).2.1 (Kd.R_F (Kd.R_mono (ok' := (fun k_ => some k_ ≠ (.slice Ao12 y211.length co12 : Value).ownBlock ∧ some k_ ≠ (v215 : Value).ownBlock ∧ some k_ ≠ (.slice Ao17 t222.length co17 : Value).ownBlock ∧ some k_ ≠ (v228 : Value).ownBlock)) (Kd.R_apart' (Kd.R_apart' (HO232.out) (Kd.N_typed HO213.out) (by decide)) (Kd.N_typed HO224.out) (by decide)) (fun k_ hk => ⟨hk.1.2, ⟨hk.1.1.1.2, ⟨hk.2, hk.1.1.2⟩⟩⟩))))) (Reps.none _ _))); intro v234 w22 ho23 hb hg_ hnew_; clear hg_ hnew_; (first | rw [← Ny233.out] at ho23 | (simp only [Int.reduceToNat] at ho23; rw [← Ny233.out] at ho23)); have n0_ := Aside0.mk (Kd.N_elder' (by (with_reducible repeat (first | apply Kd.N_alloc | apply Kd.N_drewN | apply Kd.N_drew)); exact HO213.out) (Kd.N_base ho23) hb); have n1_ := Aside0.mk (Kd.R_below (by (with_reducible repeat (first | apply Kd.R_alloc | apply Kd.R_drewN | apply Kd.R_drew)); exact HO216.out) hb); have n2_ := Aside0.mk (Kd.V_elder' (by (with_reducible repeat (first | apply Kd.V_alloc | apply Kd.V_drewN | apply Kd.V_drew)); exact HO218.out) (Kd.N_base ho23) hb); have n3_ := Aside0.mk (Kd.N_elder' (by (with_reducible repeat (first | apply Kd.N_alloc | apply Kd.N_drewN | apply Kd.N_drew)); exact HO224.out) (Kd.N_base ho23) hb); have n4_ := Aside0.mk (Kd.R_below (by (with_reducible repeat (first | apply Kd.R_alloc | apply Kd.R_drewN | apply Kd.R_drew)); exact HO229.out) hb); have n5_ := Aside0.mk (Kd.N_lower ho23 (below_size (by repeat (first | (with_reducible first | exact HB.out | apply below_alloc | apply pw_below_drewN | apply below_drew1) | exact HB.out)))); have n6_ := Aside0.mk (below_step (by repeat (first | (with_reducible first | exact HB.out | apply below_alloc | apply pw_below_drewN | apply below_drew1) | exact HB.out)) hb); clear HO213; clear HO216; clear HO218; clear HO224; clear HO229; clear HB; clear HO232; have HO213 := n0_; have HO216 := n1_; have HO218 := n2_; have HO224 := n3_; have HO229 := n4_; have HO235 := n5_; have HB := n6_; clear n0_ n1_ n2_ n3_ n4_ n5_ n6_; clear hb ho23))
    have H := HS6.out
    clear HS6
    by_cases c24 : (strOfNums t214).toList = ([53, 1, 1, 12, 0, 255] : List UInt8)
    · rw [if_pos c24] at H
      have c24b0 : ((strOfNums t214).toList == ([53, 1, 1, 12, 0, 255] : List UInt8)) = true := beq_iff_eq.mpr c24
      have c24b1 : ((strOfNums t214).toList != ([53, 1, 1, 12, 0, 255] : List UInt8)) = false := bne_eq_false_iff_eq.mpr c24
      clear c24
      by_cases c25 : t217 = 0
      · rw [if_pos c25] at H
        have c25b0 : (t217 == 0) = true := beq_iff_eq.mpr c25
        have c25b1 : (t217 != 0) = false := bne_eq_false_iff_eq.mpr c25
        clear c25
        by_cases c26 : (t222.length : Int) = 2
        · rw [if_pos c26] at H
          have c26b0 : ((t222.length : Int) == 2) = true := beq_iff_eq.mpr c26
          have c26b1 : ((t222.length : Int) != 2) = false := bne_eq_false_iff_eq.mpr c26
          clear c26
          by_cases c27 : 1 < (t222.length : Int)
          · rw [if_pos c27] at H
            have c27b0 : decide (1 < (t222.length : Int)) = true := decide_eq_true c27
            have c27b1 : decide (1 < t222.length) = true := decide_eq_true (by omega)
            clear c27
            by_cases c28 : ((rd_T70 t222 1).f0) = 12
            · rw [if_pos c28] at H
              have c28b0 : (((rd_T70 t222 1).f0) == 12) = true := beq_iff_eq.mpr c28
              have c28b1 : (((rd_T70 t222 1).f0) != 12) = false := bne_eq_false_iff_eq.mpr c28
              clear c28
              by_cases c29 : t225 = 0
              · rw [if_pos c29] at H
                have c29b0 : (t225 == 0) = true := beq_iff_eq.mpr c29
                have c29b1 : (t225 != 0) = false := bne_eq_false_iff_eq.mpr c29
                clear c29
                by_cases c30 : (strOfNums t226).toList = ([1] : List UInt8)
                · rw [if_pos c30] at H
                  have c30b0 : ((strOfNums t226).toList == ([1] : List UInt8)) = true := beq_iff_eq.mpr c30
                  have c30b1 : ((strOfNums t226).toList != ([1] : List UInt8)) = false := bne_eq_false_iff_eq.mpr c30
                  clear c30
                  by_cases c31 : t227 = true
                  · subst c31
                    have H1 : (if (t236.length : Int) = 305 then (if t239 = 0 then ((tlv_Right.f k t222).bind fun t241 => (some t241)) else (some false)) else (some false)) = some r := by rw [if_pos rfl] at H; exact H
                    clear H
                    have H := H1
                    clear H1
                    by_cases c32 : (t236.length : Int) = 305
                    · rw [if_pos c32] at H
                      have c32b0 : ((t236.length : Int) == 305) = true := beq_iff_eq.mpr c32
                      have c32b1 : ((t236.length : Int) != 305) = false := bne_eq_false_iff_eq.mpr c32
                      clear c32
                      by_cases c33 : t239 = 0
                      · rw [if_pos c33] at H
                        have c33b0 : (t239 == 0) = true := beq_iff_eq.mpr c33
                        have c33b1 : (t239 != 0) = false := bne_eq_false_iff_eq.mpr c33
                        clear c33
                        replace H := Option.bind_eq_some_iff.mp H
                        obtain ⟨t241, A340, H⟩ := H
                        replace H : (some t241) = some r := H
                        have A34 := Aside0.mk A340
                        clear A340
                        obtain rfl := Option.some.inj H
                        obtain ⟨Ao35, co35, eo35⟩ := Kd.N_slice HO235.out
                        subst eo35
                        go_wp2_with (first | (go_at_call 25; (with_reducible refine (tlv_Write.calls k (fun k_ => (some k_ ≠ (.slice Ao12 y211.length co12 : Value).ownBlock ∧ (some k_ ≠ (v215 : Value).ownBlock ∧ (some k_ ≠ (.slice Ao17 t222.length co17 : Value).ownBlock ∧ some k_ ≠ (v228 : Value).ownBlock)))) _ _ y233 t236 t239 _ ?side1 A5.out).mono ?_); (case side1 => exact Kd.N_V (HO235.out)); rintro e w36 ⟨v237, rfl, ho0, hb⟩; have n0_ := Aside0.mk (Kd.N_elder' (by (with_reducible repeat (first | apply Kd.N_alloc | apply Kd.N_drewN | apply Kd.N_drew)); exact HO213.out) (Kd.R_base ho0) hb); have n1_ := Aside0.mk (Kd.R_elder' (by (with_reducible repeat (first | apply Kd.R_alloc | apply Kd.R_drewN | apply Kd.R_drew)); exact HO216.out) (Kd.R_base ho0) hb); have n2_ := Aside0.mk (Kd.V_elder' (by (with_reducible repeat (first | apply Kd.V_alloc | apply Kd.V_drewN | apply Kd.V_drew)); exact HO218.out) (Kd.R_base ho0) hb); have n3_ := Aside0.mk (Kd.N_elder' (by (with_reducible repeat (first | apply Kd.N_alloc | apply Kd.N_drewN | apply Kd.N_drew)); exact HO224.out) (Kd.R_base ho0) hb); have n4_ := Aside0.mk (Kd.R_elder' (by (with_reducible repeat (first | apply Kd.R_alloc | apply Kd.R_drewN | apply Kd.R_drew)); exact HO229.out) (Kd.R_base ho0) hb); have n5_ := Aside0.mk (Kd.N_elder' (by (with_reducible repeat (first | apply Kd.N_alloc | apply Kd.N_drewN | apply Kd.N_drew)); exact HO235.out) (Kd.R_base ho0) hb); have n6_ := Aside0.mk (Kd.R_lower (Kd.R_new' (Kd.R_new' (Kd.R_mono (ok' := fun k_ => True) ho0 (fun _ hk_ => trivial)) (Kd.R_lt (by (with_reducible repeat (first | apply Kd.R_alloc | apply Kd.R_drewN | apply Kd.R_drew)); exact HO216.out))) (Kd.R_lt (by (with_reducible repeat (first | apply Kd.R_alloc | apply Kd.R_drewN | apply Kd.R_drew)); exact HO229.out))) (below_size (by repeat (first | (with_reducible first | exact HB.out | apply below_alloc | apply pw_below_drewN | apply below_drew1) | exact HB.out)))); have n7_ := Aside0.mk (below_step (by repeat (first | (with_reducible first | exact HB.out | apply below_alloc | apply pw_below_drewN | apply below_drew1) | exact HB.out)) hb); clear HO213; clear HO216; clear HO218; clear HO224; clear HO229; clear HO235; clear HB; have HO213 := n0_; have HO216 := n1_; have HO218 := n2_; have HO224 := n3_; have HO229 := n4_; have HO235 := n5_; have HO238 := n6_; have HB := n7_; clear n0_ n1_ n2_ n3_ n4_ n5_ n6_ n7_; (try clear hb); (try clear hb2); (try clear hk); (try clear hi); (try clear ho0); (try clear A5); have hcv37 := own_string (P := Try.prog) Try.underlying25 Try.underlying5 Try.underlying9 (Kd.own_of_R HO216.out); have p240 : 0 ≤ (1 : Int) := (by omega); have q240 : 1 < (t222.length : Int) := of_decide_eq_true (by first | (with_reducible assumption) | assumption); obtain ⟨ad240, A240_1, c240_1, e240, hx240_0, hx240_1, hl240_1, hi240_1⟩ := at_T70 (Kd.N_reads' HO224.out).2.2 1 p240 q240; cases e240; obtain ⟨ce240, hce240, hMe240, hcc240⟩ := Kd.N_get HO224.out z70 1 p240 (by first | exact q240 | exact of_decide_eq_true (by first | (with_reducible assumption) | assumption) | (have e_ := (Kd.N_reads' HO224.out).1; omega)); obtain ⟨ua240_1, uc240_1, rfl, ul240_1, ge240_1⟩ := k70_openF hMe240; have hv240_1 := hcc240 1 _ rfl; rw [add_field _ _ 1 (by omega)] at hv240_1; replace hv240_1 := Option.some.inj (hv240_1.symm.trans hx240_1); injection hv240_1 with hva_ hvn_ hvc_; rw [hva_] at ge240_1; rw [hvc_] at ul240_1; have HL240_1 := Aside0.mk (show Kd.V (Kd.int .u8) 5 _ w.heap.size _ _ ((rd_T70 t222 1).f1) from Kd.V_mk ul240_1 ge240_1); clear hva_ hvn_ hvc_ ge240_1 ul240_1; clear hcc240 hce240; (try simp only [show (1 : Int).toNat = 1 from rfl, Nat.reduceMul, Nat.reduceEqDiff, Go.Addr.add, ↓reduceIte] at hx240_0); (try simp only [show (1 : Int).toNat = 1 from rfl, Nat.reduceMul, Nat.reduceEqDiff, Go.Addr.add, ↓reduceIte] at hx240_1); have qi240 : (1 < t222.length) = True := eq_true (by omega); (try rw [show ((1 : Int)).toNat = 1 from rfl] at hx240_0); (try rw [show 1 * 2 = 2 from rfl] at hx240_0); (try rw [show ((1 : Int)).toNat = 1 from rfl] at hx240_1); (try rw [show 1 * 2 = 2 from rfl] at hx240_1); have HR240_1 := Aside0.mk hi240_1; have HC240_1 := Aside0.mk hl240_1; clear hi240_1 hl240_1; replace p240 := eq_true p240; replace q240 := eq_true q240; have hcv38 := own_string (P := Try.prog) Try.underlying25 Try.underlying5 Try.underlying9 (Kd.own_of_R HO229.out); obtain ⟨Ao39, co39, eo39⟩ := Kd.R_slice HO238.out; subst eo39) | (go_at_call 23; (with_reducible refine (tlv_Right.calls k _ _ t222 t241 _ ?side1 ?side2 A34.out).mono ?_); (case side1 => repeat (first | exact (Kd.N_reads' HO224.out).2.2 | (with_reducible refine Kd.C_alloc ?_ _) | (with_reducible refine Kd.C_drewN ?_ _) | (with_reducible refine Kd.C_drew ?_))); (case side2 => exact (Kd.N_reads' HO224.out).2.1); rintro e w40 ⟨rfl, hb⟩; have n0_ := Aside0.mk (Kd.N_below (by (with_reducible repeat (first | apply Kd.N_alloc | apply Kd.N_drewN | apply Kd.N_drew)); exact HO213.out) hb); have n1_ := Aside0.mk (Kd.R_below (by (with_reducible repeat (first | apply Kd.R_alloc | apply Kd.R_drewN | apply Kd.R_drew)); exact HO216.out) hb); have n2_ := Aside0.mk (Kd.V_below (by (with_reducible repeat (first | apply Kd.V_alloc | apply Kd.V_drewN | apply Kd.V_drew)); exact HO218.out) hb); have n3_ := Aside0.mk (Kd.N_below (by (with_reducible repeat (first | apply Kd.N_alloc | apply Kd.N_drewN | apply Kd.N_drew)); exact HO224.out) hb); have n4_ := Aside0.mk (Kd.R_below (by (with_reducible repeat (first | apply Kd.R_alloc | apply Kd.R_drewN | apply Kd.R_drew)); exact HO229.out) hb); have n5_ := Aside0.mk (Kd.N_below (by (with_reducible repeat (first | apply Kd.N_alloc | apply Kd.N_drewN | apply Kd.N_drew)); exact HO235.out) hb); have n6_ := Aside0.mk (Kd.R_below (by (with_reducible repeat (first | apply Kd.R_alloc | apply Kd.R_drewN | apply Kd.R_drew)); exact HO238.out) hb); have n7_ := Aside0.mk (Kd.V_below (by (with_reducible repeat (first | apply Kd.V_alloc | apply Kd.V_drewN | apply Kd.V_drew)); exact HL240_1.out) hb); have n8_ := Aside0.mk (Kd.C_below (by repeat (first | (with_reducible exact HR240_1.out) | (with_reducible refine Kd.C_alloc ?_ _) | (with_reducible refine Kd.C_drewN ?_ _) | (with_reducible refine Kd.C_drew ?_) | exact HR240_1.out)) hb); have n9_ := Aside0.mk (below_step (by repeat (first | (with_reducible first | exact HB.out | apply below_alloc | apply pw_below_drewN | apply below_drew1) | exact HB.out)) hb); clear HO213; clear HO216; clear HO218; clear HO224; clear HO229; clear HO235; clear HO238; clear HL240_1; clear HR240_1; clear HB; have HO213 := n0_; have HO216 := n1_; have HO218 := n2_; have HO224 := n3_; have HO229 := n4_; have HO235 := n5_; have HO238 := n6_; have HL240_1 := n7_; have HR240_1 := n8_; have HB := n9_; clear n0_ n1_ n2_ n3_ n4_ n5_ n6_ n7_ n8_ n9_; (try clear hb); (try clear hb2); (try clear hk); (try clear hi); (try clear A34)))
                        go_ret
                        exact ⟨by first | rfl | (simp [errW_none, errW_some] <;> rfl) | (simp [*, errW_none, errW_some] <;> rfl), by repeat (first | (with_reducible first | exact HB.out | apply below_alloc | apply pw_below_drewN | apply below_drew1) | exact HB.out)⟩
                      · rw [if_neg c33] at H
                        have c33b0 : (t239 == 0) = false := beq_eq_false_iff_ne.mpr c33
                        have c33b1 : (t239 != 0) = true := bne_iff_ne.mpr c33
                        obtain rfl := Option.some.inj H
                        obtain ⟨Ao41, co41, eo41⟩ := Kd.N_slice HO235.out
                        subst eo41
                        go_wp2_with (first | (go_at_call 25; (with_reducible refine (tlv_Write.calls k (fun k_ => (some k_ ≠ (.slice Ao12 y211.length co12 : Value).ownBlock ∧ (some k_ ≠ (v215 : Value).ownBlock ∧ (some k_ ≠ (.slice Ao17 t222.length co17 : Value).ownBlock ∧ some k_ ≠ (v228 : Value).ownBlock)))) _ _ y233 t236 t239 _ ?side1 A5.out).mono ?_); (case side1 => exact Kd.N_V (HO235.out)); rintro e w42 ⟨v237, rfl, ho0, hb⟩; have n0_ := Aside0.mk (Kd.N_elder' (by (with_reducible repeat (first | apply Kd.N_alloc | apply Kd.N_drewN | apply Kd.N_drew)); exact HO213.out) (Kd.R_base ho0) hb); have n1_ := Aside0.mk (Kd.R_elder' (by (with_reducible repeat (first | apply Kd.R_alloc | apply Kd.R_drewN | apply Kd.R_drew)); exact HO216.out) (Kd.R_base ho0) hb); have n2_ := Aside0.mk (Kd.V_elder' (by (with_reducible repeat (first | apply Kd.V_alloc | apply Kd.V_drewN | apply Kd.V_drew)); exact HO218.out) (Kd.R_base ho0) hb); have n3_ := Aside0.mk (Kd.N_elder' (by (with_reducible repeat (first | apply Kd.N_alloc | apply Kd.N_drewN | apply Kd.N_drew)); exact HO224.out) (Kd.R_base ho0) hb); have n4_ := Aside0.mk (Kd.R_elder' (by (with_reducible repeat (first | apply Kd.R_alloc | apply Kd.R_drewN | apply Kd.R_drew)); exact HO229.out) (Kd.R_base ho0) hb); have n5_ := Aside0.mk (Kd.N_elder' (by (with_reducible repeat (first | apply Kd.N_alloc | apply Kd.N_drewN | apply Kd.N_drew)); exact HO235.out) (Kd.R_base ho0) hb); have n6_ := Aside0.mk (Kd.R_lower (Kd.R_new' (Kd.R_new' (Kd.R_mono (ok' := fun k_ => True) ho0 (fun _ hk_ => trivial)) (Kd.R_lt (by (with_reducible repeat (first | apply Kd.R_alloc | apply Kd.R_drewN | apply Kd.R_drew)); exact HO216.out))) (Kd.R_lt (by (with_reducible repeat (first | apply Kd.R_alloc | apply Kd.R_drewN | apply Kd.R_drew)); exact HO229.out))) (below_size (by repeat (first | (with_reducible first | exact HB.out | apply below_alloc | apply pw_below_drewN | apply below_drew1) | exact HB.out)))); have n7_ := Aside0.mk (below_step (by repeat (first | (with_reducible first | exact HB.out | apply below_alloc | apply pw_below_drewN | apply below_drew1) | exact HB.out)) hb); clear HO213; clear HO216; clear HO218; clear HO224; clear HO229; clear HO235; clear HB; have HO213 := n0_; have HO216 := n1_; have HO218 := n2_; have HO224 := n3_; have HO229 := n4_; have HO235 := n5_; have HO238 := n6_; have HB := n7_; clear n0_ n1_ n2_ n3_ n4_ n5_ n6_ n7_; (try clear hb); (try clear hb2); (try clear hk); (try clear hi); (try clear ho0); (try clear A5); have hcv43 := own_string (P := Try.prog) Try.underlying25 Try.underlying5 Try.underlying9 (Kd.own_of_R HO216.out); have p240 : 0 ≤ (1 : Int) := (by omega); have q240 : 1 < (t222.length : Int) := of_decide_eq_true (by first | (with_reducible assumption) | assumption); obtain ⟨ad240, A240_1, c240_1, e240, hx240_0, hx240_1, hl240_1, hi240_1⟩ := at_T70 (Kd.N_reads' HO224.out).2.2 1 p240 q240; cases e240; obtain ⟨ce240, hce240, hMe240, hcc240⟩ := Kd.N_get HO224.out z70 1 p240 (by first | exact q240 | exact of_decide_eq_true (by first | (with_reducible assumption) | assumption) | (have e_ := (Kd.N_reads' HO224.out).1; omega)); obtain ⟨ua240_1, uc240_1, rfl, ul240_1, ge240_1⟩ := k70_openF hMe240; have hv240_1 := hcc240 1 _ rfl; rw [add_field _ _ 1 (by omega)] at hv240_1; replace hv240_1 := Option.some.inj (hv240_1.symm.trans hx240_1); injection hv240_1 with hva_ hvn_ hvc_; rw [hva_] at ge240_1; rw [hvc_] at ul240_1; have HL240_1 := Aside0.mk (show Kd.V (Kd.int .u8) 5 _ w.heap.size _ _ ((rd_T70 t222 1).f1) from Kd.V_mk ul240_1 ge240_1); clear hva_ hvn_ hvc_ ge240_1 ul240_1; clear hcc240 hce240; (try simp only [show (1 : Int).toNat = 1 from rfl, Nat.reduceMul, Nat.reduceEqDiff, Go.Addr.add, ↓reduceIte] at hx240_0); (try simp only [show (1 : Int).toNat = 1 from rfl, Nat.reduceMul, Nat.reduceEqDiff, Go.Addr.add, ↓reduceIte] at hx240_1); have qi240 : (1 < t222.length) = True := eq_true (by omega); (try rw [show ((1 : Int)).toNat = 1 from rfl] at hx240_0); (try rw [show 1 * 2 = 2 from rfl] at hx240_0); (try rw [show ((1 : Int)).toNat = 1 from rfl] at hx240_1); (try rw [show 1 * 2 = 2 from rfl] at hx240_1); have HR240_1 := Aside0.mk hi240_1; have HC240_1 := Aside0.mk hl240_1; clear hi240_1 hl240_1; replace p240 := eq_true p240; replace q240 := eq_true q240; have hcv44 := own_string (P := Try.prog) Try.underlying25 Try.underlying5 Try.underlying9 (Kd.own_of_R HO229.out); obtain ⟨Ao45, co45, eo45⟩ := Kd.R_slice HO238.out; subst eo45))
                        go_ret
                        exact ⟨by first | rfl | (simp [errW_none, errW_some] <;> rfl) | (simp [*, errW_none, errW_some] <;> rfl), by repeat (first | (with_reducible first | exact HB.out | apply below_alloc | apply pw_below_drewN | apply below_drew1) | exact HB.out)⟩
                    · rw [if_neg c32] at H
                      have c32b0 : ((t236.length : Int) == 305) = false := beq_eq_false_iff_ne.mpr c32
                      have c32b1 : ((t236.length : Int) != 305) = true := bne_iff_ne.mpr c32
                      obtain rfl := Option.some.inj H
                      obtain ⟨Ao46, co46, eo46⟩ := Kd.N_slice HO235.out
                      subst eo46
                      go_wp2_with (first | (go_at_call 25; (with_reducible refine (tlv_Write.calls k (fun k_ => (some k_ ≠ (.slice Ao12 y211.length co12 : Value).ownBlock ∧ (some k_ ≠ (v215 : Value).ownBlock ∧ (some k_ ≠ (.slice Ao17 t222.length co17 : Value).ownBlock ∧ some k_ ≠ (v228 : Value).ownBlock)))) _ _ y233 t236 t239 _ ?side1 A5.out).mono ?_); (case side1 => exact Kd.N_V (HO235.out)); rintro e w47 ⟨v237, rfl, ho0, hb⟩; have n0_ := Aside0.mk (Kd.N_elder' (by (with_reducible repeat (first | apply Kd.N_alloc | apply Kd.N_drewN | apply Kd.N_drew)); exact HO213.out) (Kd.R_base ho0) hb); have n1_ := Aside0.mk (Kd.R_elder' (by (with_reducible repeat (first | apply Kd.R_alloc | apply Kd.R_drewN | apply Kd.R_drew)); exact HO216.out) (Kd.R_base ho0) hb); have n2_ := Aside0.mk (Kd.V_elder' (by (with_reducible repeat (first | apply Kd.V_alloc | apply Kd.V_drewN | apply Kd.V_drew)); exact HO218.out) (Kd.R_base ho0) hb); have n3_ := Aside0.mk (Kd.N_elder' (by (with_reducible repeat (first | apply Kd.N_alloc | apply Kd.N_drewN | apply Kd.N_drew)); exact HO224.out) (Kd.R_base ho0) hb); have n4_ := Aside0.mk (Kd.R_elder' (by (with_reducible repeat (first | apply Kd.R_alloc | apply Kd.R_drewN | apply Kd.R_drew)); exact HO229.out) (Kd.R_base ho0) hb); have n5_ := Aside0.mk (Kd.N_elder' (by (with_reducible repeat (first | apply Kd.N_alloc | apply Kd.N_drewN | apply Kd.N_drew)); exact HO235.out) (Kd.R_base ho0) hb); have n6_ := Aside0.mk (Kd.R_lower (Kd.R_new' (Kd.R_new' (Kd.R_mono (ok' := fun k_ => True) ho0 (fun _ hk_ => trivial)) (Kd.R_lt (by (with_reducible repeat (first | apply Kd.R_alloc | apply Kd.R_drewN | apply Kd.R_drew)); exact HO216.out))) (Kd.R_lt (by (with_reducible repeat (first | apply Kd.R_alloc | apply Kd.R_drewN | apply Kd.R_drew)); exact HO229.out))) (below_size (by repeat (first | (with_reducible first | exact HB.out | apply below_alloc | apply pw_below_drewN | apply below_drew1) | exact HB.out)))); have n7_ := Aside0.mk (below_step (by repeat (first | (with_reducible first | exact HB.out | apply below_alloc | apply pw_below_drewN | apply below_drew1) | exact HB.out)) hb); clear HO213; clear HO216; clear HO218; clear HO224; clear HO229; clear HO235; clear HB; have HO213 := n0_; have HO216 := n1_; have HO218 := n2_; have HO224 := n3_; have HO229 := n4_; have HO235 := n5_; have HO238 := n6_; have HB := n7_; clear n0_ n1_ n2_ n3_ n4_ n5_ n6_ n7_; (try clear hb); (try clear hb2); (try clear hk); (try clear hi); (try clear ho0); (try clear A5); have hcv48 := own_string (P := Try.prog) Try.underlying25 Try.underlying5 Try.underlying9 (Kd.own_of_R HO216.out); have p240 : 0 ≤ (1 : Int) := (by omega); have q240 : 1 < (t222.length : Int) := of_decide_eq_true (by first | (with_reducible assumption) | assumption); obtain ⟨ad240, A240_1, c240_1, e240, hx240_0, hx240_1, hl240_1, hi240_1⟩ := at_T70 (Kd.N_reads' HO224.out).2.2 1 p240 q240; cases e240; obtain ⟨ce240, hce240, hMe240, hcc240⟩ := Kd.N_get HO224.out z70 1 p240 (by first | exact q240 | exact of_decide_eq_true (by first | (with_reducible assumption) | assumption) | (have e_ := (Kd.N_reads' HO224.out).1; omega)); obtain ⟨ua240_1, uc240_1, rfl, ul240_1, ge240_1⟩ := k70_openF hMe240; have hv240_1 := hcc240 1 _ rfl; rw [add_field _ _ 1 (by omega)] at hv240_1; replace hv240_1 := Option.some.inj (hv240_1.symm.trans hx240_1); injection hv240_1 with hva_ hvn_ hvc_; rw [hva_] at ge240_1; rw [hvc_] at ul240_1; have HL240_1 := Aside0.mk (show Kd.V (Kd.int .u8) 5 _ w.heap.size _ _ ((rd_T70 t222 1).f1) from Kd.V_mk ul240_1 ge240_1); clear hva_ hvn_ hvc_ ge240_1 ul240_1; clear hcc240 hce240; (try simp only [show (1 : Int).toNat = 1 from rfl, Nat.reduceMul, Nat.reduceEqDiff, Go.Addr.add, ↓reduceIte] at hx240_0); (try simp only [show (1 : Int).toNat = 1 from rfl, Nat.reduceMul, Nat.reduceEqDiff, Go.Addr.add, ↓reduceIte] at hx240_1); have qi240 : (1 < t222.length) = True := eq_true (by omega); (try rw [show ((1 : Int)).toNat = 1 from rfl] at hx240_0); (try rw [show 1 * 2 = 2 from rfl] at hx240_0); (try rw [show ((1 : Int)).toNat = 1 from rfl] at hx240_1); (try rw [show 1 * 2 = 2 from rfl] at hx240_1); have HR240_1 := Aside0.mk hi240_1; have HC240_1 := Aside0.mk hl240_1; clear hi240_1 hl240_1; replace p240 := eq_true p240; replace q240 := eq_true q240; have hcv49 := own_string (P := Try.prog) Try.underlying25 Try.underlying5 Try.underlying9 (Kd.own_of_R HO229.out); obtain ⟨Ao50, co50, eo50⟩ := Kd.R_slice HO238.out; subst eo50))
                      go_ret
                      exact ⟨by first | rfl | (simp [errW_none, errW_some] <;> rfl) | (simp [*, errW_none, errW_some] <;> rfl), by repeat (first | (with_reducible first | exact HB.out | apply below_alloc | apply pw_below_drewN | apply below_drew1) | exact HB.out)⟩
                  · replace c31 := Bool.eq_false_iff.mpr c31
                    subst c31
                    have H1 : (some false) = some r := by rw [if_neg (show ¬ (false = true) by decide)] at H; exact H
                    clear H
                    have H := H1
                    clear H1
                    obtain rfl := Option.some.inj H
                    obtain ⟨Ao51, co51, eo51⟩ := Kd.N_slice HO235.out
                    subst eo51
                    go_wp2_with (first | (go_at_call 25; (with_reducible refine (tlv_Write.calls k (fun k_ => (some k_ ≠ (.slice Ao12 y211.length co12 : Value).ownBlock ∧ (some k_ ≠ (v215 : Value).ownBlock ∧ (some k_ ≠ (.slice Ao17 t222.length co17 : Value).ownBlock ∧ some k_ ≠ (v228 : Value).ownBlock)))) _ _ y233 t236 t239 _ ?side1 A5.out).mono ?_); (case side1 => exact Kd.N_V (HO235.out)); rintro e w52 ⟨v237, rfl, ho0, hb⟩; have n0_ := Aside0.mk (Kd.N_elder' (by (with_reducible repeat (first | apply Kd.N_alloc | apply Kd.N_drewN | apply Kd.N_drew)); exact HO213.out) (Kd.R_base ho0) hb); have n1_ := Aside0.mk (Kd.R_elder' (by (with_reducible repeat (first | apply Kd.R_alloc | apply Kd.R_drewN | apply Kd.R_drew)); exact HO216.out) (Kd.R_base ho0) hb); have n2_ := Aside0.mk (Kd.V_elder' (by (with_reducible repeat (first | apply Kd.V_alloc | apply Kd.V_drewN | apply Kd.V_drew)); exact HO218.out) (Kd.R_base ho0) hb); have n3_ := Aside0.mk (Kd.N_elder' (by (with_reducible repeat (first | apply Kd.N_alloc | apply Kd.N_drewN | apply Kd.N_drew)); exact HO224.out) (Kd.R_base ho0) hb); have n4_ := Aside0.mk (Kd.R_elder' (by (with_reducible repeat (first | apply Kd.R_alloc | apply Kd.R_drewN | apply Kd.R_drew)); exact HO229.out) (Kd.R_base ho0) hb); have n5_ := Aside0.mk (Kd.N_elder' (by (with_reducible repeat (first | apply Kd.N_alloc | apply Kd.N_drewN | apply Kd.N_drew)); exact HO235.out) (Kd.R_base ho0) hb); have n6_ := Aside0.mk (Kd.R_lower (Kd.R_new' (Kd.R_new' (Kd.R_mono (ok' := fun k_ => True) ho0 (fun _ hk_ => trivial)) (Kd.R_lt (by (with_reducible repeat (first | apply Kd.R_alloc | apply Kd.R_drewN | apply Kd.R_drew)); exact HO216.out))) (Kd.R_lt (by (with_reducible repeat (first | apply Kd.R_alloc | apply Kd.R_drewN | apply Kd.R_drew)); exact HO229.out))) (below_size (by repeat (first | (with_reducible first | exact HB.out | apply below_alloc | apply pw_below_drewN | apply below_drew1) | exact HB.out)))); have n7_ := Aside0.mk (below_step (by repeat (first | (with_reducible first | exact HB.out | apply below_alloc | apply pw_below_drewN | apply below_drew1) | exact HB.out)) hb); clear HO213; clear HO216; clear HO218; clear HO224; clear HO229; clear HO235; clear HB; have HO213 := n0_; have HO216 := n1_; have HO218 := n2_; have HO224 := n3_; have HO229 := n4_; have HO235 := n5_; have HO238 := n6_; have HB := n7_; clear n0_ n1_ n2_ n3_ n4_ n5_ n6_ n7_; (try clear hb); (try clear hb2); (try clear hk); (try clear hi); (try clear ho0); (try clear A5); have hcv53 := own_string (P := Try.prog) Try.underlying25 Try.underlying5 Try.underlying9 (Kd.own_of_R HO216.out); have p240 : 0 ≤ (1 : Int) := (by omega); have q240 : 1 < (t222.length : Int) := of_decide_eq_true (by first | (with_reducible assumption) | assumption); obtain ⟨ad240, A240_1, c240_1, e240, hx240_0, hx240_1, hl240_1, hi240_1⟩ := at_T70 (Kd.N_reads' HO224.out).2.2 1 p240 q240; cases e240; obtain ⟨ce240, hce240, hMe240, hcc240⟩ := Kd.N_get HO224.out z70 1 p240 (by first | exact q240 | exact of_decide_eq_true (by first | (with_reducible assumption) | assumption) | (have e_ := (Kd.N_reads' HO224.out).1; omega)); obtain ⟨ua240_1, uc240_1, rfl, ul240_1, ge240_1⟩ := k70_openF hMe240; have hv240_1 := hcc240 1 _ rfl; rw [add_field _ _ 1 (by omega)] at hv240_1; replace hv240_1 := Option.some.inj (hv240_1.symm.trans hx240_1); injection hv240_1 with hva_ hvn_ hvc_; rw [hva_] at ge240_1; rw [hvc_] at ul240_1; have HL240_1 := Aside0.mk (show Kd.V (Kd.int .u8) 5 _ w.heap.size _ _ ((rd_T70 t222 1).f1) from Kd.V_mk ul240_1 ge240_1); clear hva_ hvn_ hvc_ ge240_1 ul240_1; clear hcc240 hce240; (try simp only [show (1 : Int).toNat = 1 from rfl, Nat.reduceMul, Nat.reduceEqDiff, Go.Addr.add, ↓reduceIte] at hx240_0); (try simp only [show (1 : Int).toNat = 1 from rfl, Nat.reduceMul, Nat.reduceEqDiff, Go.Addr.add, ↓reduceIte] at hx240_1); have qi240 : (1 < t222.length) = True := eq_true (by omega); (try rw [show ((1 : Int)).toNat = 1 from rfl] at hx240_0); (try rw [show 1 * 2 = 2 from rfl] at hx240_0); (try rw [show ((1 : Int)).toNat = 1 from rfl] at hx240_1); (try rw [show 1 * 2 = 2 from rfl] at hx240_1); have HR240_1 := Aside0.mk hi240_1; have HC240_1 := Aside0.mk hl240_1; clear hi240_1 hl240_1; replace p240 := eq_true p240; replace q240 := eq_true q240; have hcv54 := own_string (P := Try.prog) Try.underlying25 Try.underlying5 Try.underlying9 (Kd.own_of_R HO229.out)))
                    go_ret
                    exact ⟨by first | rfl | (simp [errW_none, errW_some] <;> rfl) | (simp [*, errW_none, errW_some] <;> rfl), by repeat (first | (with_reducible first | exact HB.out | apply below_alloc | apply pw_below_drewN | apply below_drew1) | exact HB.out)⟩
                · rw [if_neg c30] at H
                  have c30b0 : ((strOfNums t226).toList == ([1] : List UInt8)) = false := beq_eq_false_iff_ne.mpr c30
                  have c30b1 : ((strOfNums t226).toList != ([1] : List UInt8)) = true := bne_iff_ne.mpr c30
                  obtain rfl := Option.some.inj H
                  obtain ⟨Ao55, co55, eo55⟩ := Kd.N_slice HO235.out
                  subst eo55
                  go_wp2_with (first | (go_at_call 25; (with_reducible refine (tlv_Write.calls k (fun k_ => (some k_ ≠ (.slice Ao12 y211.length co12 : Value).ownBlock ∧ (some k_ ≠ (v215 : Value).ownBlock ∧ (some k_ ≠ (.slice Ao17 t222.length co17 : Value).ownBlock ∧ some k_ ≠ (v228 : Value).ownBlock)))) _ _ y233 t236 t239 _ ?side1 A5.out).mono ?_); (case side1 => exact Kd.N_V (HO235.out)); rintro e w56 ⟨v237, rfl, ho0, hb⟩; have n0_ := Aside0.mk (Kd.N_elder' (by (with_reducible repeat (first | apply Kd.N_alloc | apply Kd.N_drewN | apply Kd.N_drew)); exact HO213.out) (Kd.R_base ho0) hb); have n1_ := Aside0.mk (Kd.R_elder' (by (with_reducible repeat (first | apply Kd.R_alloc | apply Kd.R_drewN | apply Kd.R_drew)); exact HO216.out) (Kd.R_base ho0) hb); have n2_ := Aside0.mk (Kd.V_elder' (by (with_reducible repeat (first | apply Kd.V_alloc | apply Kd.V_drewN | apply Kd.V_drew)); exact HO218.out) (Kd.R_base ho0) hb); have n3_ := Aside0.mk (Kd.N_elder' (by (with_reducible repeat (first | apply Kd.N_alloc | apply Kd.N_drewN | apply Kd.N_drew)); exact HO224.out) (Kd.R_base ho0) hb); have n4_ := Aside0.mk (Kd.R_elder' (by (with_reducible repeat (first | apply Kd.R_alloc | apply Kd.R_drewN | apply Kd.R_drew)); exact HO229.out) (Kd.R_base ho0) hb); have n5_ := Aside0.mk (Kd.N_elder' (by (with_reducible repeat (first | apply Kd.N_alloc | apply Kd.N_drewN | apply Kd.N_drew)); exact HO235.out) (Kd.R_base ho0) hb); have n6_ := Aside0.mk (Kd.R_lower (Kd.R_new' (Kd.R_new' (Kd.R_mono (ok' := fun k_ => True) ho0 (fun _ hk_ => trivial)) (Kd.R_lt (by (with_reducible repeat (first | apply Kd.R_alloc | apply Kd.R_drewN | apply Kd.R_drew)); exact HO216.out))) (Kd.R_lt (by (with_reducible repeat (first | apply Kd.R_alloc | apply Kd.R_drewN | apply Kd.R_drew)); exact HO229.out))) (below_size (by repeat (first | (with_reducible first | exact HB.out | apply below_alloc | apply pw_below_drewN | apply below_drew1) | exact HB.out)))); have n7_ := Aside0.mk (below_step (by repeat (first | (with_reducible first | exact HB.out | apply below_alloc | apply pw_below_drewN | apply below_drew1) | exact HB.out)) hb); clear HO213; clear HO216; clear HO218; clear HO224; clear HO229; clear HO235; clear HB; have HO213 := n0_; have HO216 := n1_; have HO218 := n2_; have HO224 := n3_; have HO229 := n4_; have HO235 := n5_; have HO238 := n6_; have HB := n7_; clear n0_ n1_ n2_ n3_ n4_ n5_ n6_ n7_; (try clear hb); (try clear hb2); (try clear hk); (try clear hi); (try clear ho0); (try clear A5); have hcv57 := own_string (P := Try.prog) Try.underlying25 Try.underlying5 Try.underlying9 (Kd.own_of_R HO216.out); have p240 : 0 ≤ (1 : Int) := (by omega); have q240 : 1 < (t222.length : Int) := of_decide_eq_true (by first | (with_reducible assumption) | assumption); obtain ⟨ad240, A240_1, c240_1, e240, hx240_0, hx240_1, hl240_1, hi240_1⟩ := at_T70 (Kd.N_reads' HO224.out).2.2 1 p240 q240; cases e240; obtain ⟨ce240, hce240, hMe240, hcc240⟩ := Kd.N_get HO224.out z70 1 p240 (by first | exact q240 | exact of_decide_eq_true (by first | (with_reducible assumption) | assumption) | (have e_ := (Kd.N_reads' HO224.out).1; omega)); obtain ⟨ua240_1, uc240_1, rfl, ul240_1, ge240_1⟩ := k70_openF hMe240; have hv240_1 := hcc240 1 _ rfl; rw [add_field _ _ 1 (by omega)] at hv240_1; replace hv240_1 := Option.some.inj (hv240_1.symm.trans hx240_1); injection hv240_1 with hva_ hvn_ hvc_; rw [hva_] at ge240_1; rw [hvc_] at ul240_1; have HL240_1 := Aside0.mk (show Kd.V (Kd.int .u8) 5 _ w.heap.size _ _ ((rd_T70 t222 1).f1) from Kd.V_mk ul240_1 ge240_1); clear hva_ hvn_ hvc_ ge240_1 ul240_1; clear hcc240 hce240; (try simp only [show (1 : Int).toNat = 1 from rfl, Nat.reduceMul, Nat.reduceEqDiff, Go.Addr.add, ↓reduceIte] at hx240_0); (try simp only [show (1 : Int).toNat = 1 from rfl, Nat.reduceMul, Nat.reduceEqDiff, Go.Addr.add, ↓reduceIte] at hx240_1); have qi240 : (1 < t222.length) = True := eq_true (by omega); (try rw [show ((1 : Int)).toNat = 1 from rfl] at hx240_0); (try rw [show 1 * 2 = 2 from rfl] at hx240_0); (try rw [show ((1 : Int)).toNat = 1 from rfl] at hx240_1); (try rw [show 1 * 2 = 2 from rfl] at hx240_1); have HR240_1 := Aside0.mk hi240_1; have HC240_1 := Aside0.mk hl240_1; clear hi240_1 hl240_1; replace p240 := eq_true p240; replace q240 := eq_true q240; have hcv58 := own_string (P := Try.prog) Try.underlying25 Try.underlying5 Try.underlying9 (Kd.own_of_R HO229.out)))
                  go_ret
                  exact ⟨by first | rfl | (simp [errW_none, errW_some] <;> rfl) | (simp [*, errW_none, errW_some] <;> rfl), by repeat (first | (with_reducible first | exact HB.out | apply below_alloc | apply pw_below_drewN | apply below_drew1) | exact HB.out)⟩
              · rw [if_neg c29] at H
                have c29b0 : (t225 == 0) = false := beq_eq_false_iff_ne.mpr c29
                have c29b1 : (t225 != 0) = true := bne_iff_ne.mpr c29
                obtain rfl := Option.some.inj H
                obtain ⟨Ao59, co59, eo59⟩ := Kd.N_slice HO235.out
                subst eo59
                go_wp2_with (first | (go_at_call 25; (with_reducible refine (tlv_Write.calls k (fun k_ => (some k_ ≠ (.slice Ao12 y211.length co12 : Value).ownBlock ∧ (some k_ ≠ (v215 : Value).ownBlock ∧ (some k_ ≠ (.slice Ao17 t222.length co17 : Value).ownBlock ∧ some k_ ≠ (v228 : Value).ownBlock)))) _ _ y233 t236 t239 _ ?side1 A5.out).mono ?_); (case side1 => exact Kd.N_V (HO235.out)); rintro e w60 ⟨v237, rfl, ho0, hb⟩; have n0_ := Aside0.mk (Kd.N_elder' (by (with_reducible repeat (first | apply Kd.N_alloc | apply Kd.N_drewN | apply Kd.N_drew)); exact HO213.out) (Kd.R_base ho0) hb); have n1_ := Aside0.mk (Kd.R_elder' (by (with_reducible repeat (first | apply Kd.R_alloc | apply Kd.R_drewN | apply Kd.R_drew)); exact HO216.out) (Kd.R_base ho0) hb); have n2_ := Aside0.mk (Kd.V_elder' (by (with_reducible repeat (first | apply Kd.V_alloc | apply Kd.V_drewN | apply Kd.V_drew)); exact HO218.out) (Kd.R_base ho0) hb); have n3_ := Aside0.mk (Kd.N_elder' (by (with_reducible repeat (first | apply Kd.N_alloc | apply Kd.N_drewN | apply Kd.N_drew)); exact HO224.out) (Kd.R_base ho0) hb); have n4_ := Aside0.mk (Kd.R_elder' (by (with_reducible repeat (first | apply Kd.R_alloc | apply Kd.R_drewN | apply Kd.R_drew)); exact HO229.out) (Kd.R_base ho0) hb); have n5_ := Aside0.mk (Kd.N_elder' (by (with_reducible repeat (first | apply Kd.N_alloc | apply Kd.N_drewN | apply Kd.N_drew)); exact HO235.out) (Kd.R_base ho0) hb); have n6_ := Aside0.mk (Kd.R_lower (Kd.R_new' (Kd.R_new' (Kd.R_mono (ok' := fun k_ => True) ho0 (fun _ hk_ => trivial)) (Kd.R_lt (by (with_reducible repeat (first | apply Kd.R_alloc | apply Kd.R_drewN | apply Kd.R_drew)); exact HO216.out))) (Kd.R_lt (by (with_reducible repeat (first | apply Kd.R_alloc | apply Kd.R_drewN | apply Kd.R_drew)); exact HO229.out))) (below_size (by repeat (first | (with_reducible first | exact HB.out | apply below_alloc | apply pw_below_drewN | apply below_drew1) | exact HB.out)))); have n7_ := Aside0.mk (below_step (by repeat (first | (with_reducible first | exact HB.out | apply below_alloc | apply pw_below_drewN | apply below_drew1) | exact HB.out)) hb); clear HO213; clear HO216; clear HO218; clear HO224; clear HO229; clear HO235; clear HB; have HO213 := n0_; have HO216 := n1_; have HO218 := n2_; have HO224 := n3_; have HO229 := n4_; have HO235 := n5_; have HO238 := n6_; have HB := n7_; clear n0_ n1_ n2_ n3_ n4_ n5_ n6_ n7_; (try clear hb); (try clear hb2); (try clear hk); (try clear hi); (try clear ho0); (try clear A5); have hcv61 := own_string (P := Try.prog) Try.underlying25 Try.underlying5 Try.underlying9 (Kd.own_of_R HO216.out); have p240 : 0 ≤ (1 : Int) := (by omega); have q240 : 1 < (t222.length : Int) := of_decide_eq_true (by first | (with_reducible assumption) | assumption); obtain ⟨ad240, A240_1, c240_1, e240, hx240_0, hx240_1, hl240_1, hi240_1⟩ := at_T70 (Kd.N_reads' HO224.out).2.2 1 p240 q240; cases e240; obtain ⟨ce240, hce240, hMe240, hcc240⟩ := Kd.N_get HO224.out z70 1 p240 (by first | exact q240 | exact of_decide_eq_true (by first | (with_reducible assumption) | assumption) | (have e_ := (Kd.N_reads' HO224.out).1; omega)); obtain ⟨ua240_1, uc240_1, rfl, ul240_1, ge240_1⟩ := k70_openF hMe240; have hv240_1 := hcc240 1 _ rfl; rw [add_field _ _ 1 (by omega)] at hv240_1; replace hv240_1 := Option.some.inj (hv240_1.symm.trans hx240_1); injection hv240_1 with hva_ hvn_ hvc_; rw [hva_] at ge240_1; rw [hvc_] at ul240_1; have HL240_1 := Aside0.mk (show Kd.V (Kd.int .u8) 5 _ w.heap.size _ _ ((rd_T70 t222 1).f1) from Kd.V_mk ul240_1 ge240_1); clear hva_ hvn_ hvc_ ge240_1 ul240_1; clear hcc240 hce240; (try simp only [show (1 : Int).toNat = 1 from rfl, Nat.reduceMul, Nat.reduceEqDiff, Go.Addr.add, ↓reduceIte] at hx240_0); (try simp only [show (1 : Int).toNat = 1 from rfl, Nat.reduceMul, Nat.reduceEqDiff, Go.Addr.add, ↓reduceIte] at hx240_1); have qi240 : (1 < t222.length) = True := eq_true (by omega); (try rw [show ((1 : Int)).toNat = 1 from rfl] at hx240_0); (try rw [show 1 * 2 = 2 from rfl] at hx240_0); (try rw [show ((1 : Int)).toNat = 1 from rfl] at hx240_1); (try rw [show 1 * 2 = 2 from rfl] at hx240_1); have HR240_1 := Aside0.mk hi240_1; have HC240_1 := Aside0.mk hl240_1; clear hi240_1 hl240_1; replace p240 := eq_true p240; replace q240 := eq_true q240))
                go_ret
                exact ⟨by first | rfl | (simp [errW_none, errW_some] <;> rfl) | (simp [*, errW_none, errW_some] <;> rfl), by repeat (first | (with_reducible first | exact HB.out | apply below_alloc | apply pw_below_drewN | apply below_drew1) | exact HB.out)⟩
            · rw [if_neg c28] at H
              have c28b0 : (((rd_T70 t222 1).f0) == 12) = false := beq_eq_false_iff_ne.mpr c28
              have c28b1 : (((rd_T70 t222 1).f0) != 12) = true := bne_iff_ne.mpr c28
              obtain rfl := Option.some.inj H
              obtain ⟨Ao62, co62, eo62⟩ := Kd.N_slice HO235.out
              subst eo62
              go_wp2_with (first | (go_at_call 25; (with_reducible refine (tlv_Write.calls k (fun k_ => (some k_ ≠ (.slice Ao12 y211.length co12 : Value).ownBlock ∧ (some k_ ≠ (v215 : Value).ownBlock ∧ (some k_ ≠ (.slice Ao17 t222.length co17 : Value).ownBlock ∧ some k_ ≠ (v228 : Value).ownBlock)))) _ _ y233 t236 t239 _ ?side1 A5.out).mono ?_); (case side1 => exact Kd.N_V (HO235.out)); rintro e w63 ⟨v237, rfl, ho0, hb⟩; have n0_ := Aside0.mk (Kd.N_elder' (by (with_reducible repeat (first | apply Kd.N_alloc | apply Kd.N_drewN | apply Kd.N_drew)); exact HO213.out) (Kd.R_base ho0) hb); have n1_ := Aside0.mk (Kd.R_elder' (by (with_reducible repeat (first | apply Kd.R_alloc | apply Kd.R_drewN | apply Kd.R_drew)); exact HO216.out) (Kd.R_base ho0) hb); have n2_ := Aside0.mk (Kd.V_elder' (by (with_reducible repeat (first | apply Kd.V_alloc | apply Kd.V_drewN | apply Kd.V_drew)); exact HO218.out) (Kd.R_base ho0) hb); have n3_ := Aside0.mk (Kd.N_elder' (by (with_reducible repeat (first | apply Kd.N_alloc | apply Kd.N_drewN | apply Kd.N_drew)); exact HO224.out) (Kd.R_base ho0) hb); have n4_ := Aside0.mk (Kd.R_elder' (by (with_reducible repeat (first | apply Kd.R_alloc | apply Kd.R_drewN | apply Kd.R_drew)); exact HO229.out) (Kd.R_base ho0) hb); have n5_ := Aside0.mk (Kd.N_elder' (by (with_reducible repeat (first | apply Kd.N_alloc | apply Kd.N_drewN | apply Kd.N_drew)); exact HO235.out) (Kd.R_base ho0) hb); have n6_ := Aside0.mk (Kd.R_lower (Kd.R_new' (Kd.R_new' (Kd.R_mono (ok' := fun k_ => True) ho0 (fun _ hk_ => trivial)) (Kd.R_lt (by (with_reducible repeat (first | apply Kd.R_alloc | apply Kd.R_drewN | apply Kd.R_drew)); exact HO216.out))) (Kd.R_lt (by (with_reducible repeat (first | apply Kd.R_alloc | apply Kd.R_drewN | apply Kd.R_drew)); exact HO229.out))) (below_size (by repeat (first | (with_reducible first | exact HB.out | apply below_alloc | apply pw_below_drewN | apply below_drew1) | exact HB.out)))); have n7_ := Aside0.mk (below_step (by repeat (first | (with_reducible first | exact HB.out | apply below_alloc | apply pw_below_drewN | apply below_drew1) | exact HB.out)) hb); clear HO213; clear HO216; clear HO218; clear HO224; clear HO229; clear HO235; clear HB; have HO213 := n0_; have HO216 := n1_; have HO218 := n2_; have HO224 := n3_; have HO229 := n4_; have HO235 := n5_; have HO238 := n6_; have HB := n7_; clear n0_ n1_ n2_ n3_ n4_ n5_ n6_ n7_; (try clear hb); (try clear hb2); (try clear hk); (try clear hi); (try clear ho0); (try clear A5); have hcv64 := own_string (P := Try.prog) Try.underlying25 Try.underlying5 Try.underlying9 (Kd.own_of_R HO216.out); have p240 : 0 ≤ (1 : Int) := (by omega); have q240 : 1 < (t222.length : Int) := of_decide_eq_true (by first | (with_reducible assumption) | assumption); obtain ⟨ad240, A240_1, c240_1, e240, hx240_0, hx240_1, hl240_1, hi240_1⟩ := at_T70 (Kd.N_reads' HO224.out).2.2 1 p240 q240; cases e240; obtain ⟨ce240, hce240, hMe240, hcc240⟩ := Kd.N_get HO224.out z70 1 p240 (by first | exact q240 | exact of_decide_eq_true (by first | (with_reducible assumption) | assumption) | (have e_ := (Kd.N_reads' HO224.out).1; omega)); obtain ⟨ua240_1, uc240_1, rfl, ul240_1, ge240_1⟩ := k70_openF hMe240; have hv240_1 := hcc240 1 _ rfl; rw [add_field _ _ 1 (by omega)] at hv240_1; replace hv240_1 := Option.some.inj (hv240_1.symm.trans hx240_1); injection hv240_1 with hva_ hvn_ hvc_; rw [hva_] at ge240_1; rw [hvc_] at ul240_1; have HL240_1 := Aside0.mk (show Kd.V (Kd.int .u8) 5 _ w.heap.size _ _ ((rd_T70 t222 1).f1) from Kd.V_mk ul240_1 ge240_1); clear hva_ hvn_ hvc_ ge240_1 ul240_1; clear hcc240 hce240; (try simp only [show (1 : Int).toNat = 1 from rfl, Nat.reduceMul, Nat.reduceEqDiff, Go.Addr.add, ↓reduceIte] at hx240_0); (try simp only [show (1 : Int).toNat = 1 from rfl, Nat.reduceMul, Nat.reduceEqDiff, Go.Addr.add, ↓reduceIte] at hx240_1); have qi240 : (1 < t222.length) = True := eq_true (by omega); (try rw [show ((1 : Int)).toNat = 1 from rfl] at hx240_0); (try rw [show 1 * 2 = 2 from rfl] at hx240_0); (try rw [show ((1 : Int)).toNat = 1 from rfl] at hx240_1); (try rw [show 1 * 2 = 2 from rfl] at hx240_1); have HR240_1 := Aside0.mk hi240_1; have HC240_1 := Aside0.mk hl240_1; clear hi240_1 hl240_1; replace p240 := eq_true p240; replace q240 := eq_true q240))
              go_ret
              exact ⟨by first | rfl | (simp [errW_none, errW_some] <;> rfl) | (simp [*, errW_none, errW_some] <;> rfl), by repeat (first | (with_reducible first | exact HB.out | apply below_alloc | apply pw_below_drewN | apply below_drew1) | exact HB.out)⟩
          · rw [if_neg c27] at H
            exact absurd H (by simp)
        · rw [if_neg c26] at H
          have c26b0 : ((t222.length : Int) == 2) = false := beq_eq_false_iff_ne.mpr c26
          have c26b1 : ((t222.length : Int) != 2) = true := bne_iff_ne.mpr c26
          obtain rfl := Option.some.inj H
          obtain ⟨Ao65, co65, eo65⟩ := Kd.N_slice HO235.out
          subst eo65
          go_wp2_with (first | (go_at_call 25; (with_reducible refine (tlv_Write.calls k (fun k_ => (some k_ ≠ (.slice Ao12 y211.length co12 : Value).ownBlock ∧ (some k_ ≠ (v215 : Value).ownBlock ∧ (some k_ ≠ (.slice Ao17 t222.length co17 : Value).ownBlock ∧ some k_ ≠ (v228 : Value).ownBlock)))) _ _ y233 t236 t239 _ ?side1 A5.out).mono ?_); (case side1 => exact Kd.N_V (HO235.out)); rintro e w66 ⟨v237, rfl, ho0, hb⟩; have n0_ := Aside0.mk (Kd.N_elder' (by (with_reducible repeat (first | apply Kd.N_alloc | apply Kd.N_drewN | apply Kd.N_drew)); exact HO213.out) (Kd.R_base ho0) hb); have n1_ := Aside0.mk (Kd.R_elder' (by (with_reducible repeat (first | apply Kd.R_alloc | apply Kd.R_drewN | apply Kd.R_drew)); exact HO216.out) (Kd.R_base ho0) hb); have n2_ := Aside0.mk (Kd.V_elder' (by (with_reducible repeat (first | apply Kd.V_alloc | apply Kd.V_drewN | apply Kd.V_drew)); exact HO218.out) (Kd.R_base ho0) hb); have n3_ := Aside0.mk (Kd.N_elder' (by (with_reducible repeat (first | apply Kd.N_alloc | apply Kd.N_drewN | apply Kd.N_drew)); exact HO224.out) (Kd.R_base ho0) hb); have n4_ := Aside0.mk (Kd.R_elder' (by (with_reducible repeat (first | apply Kd.R_alloc | apply Kd.R_drewN | apply Kd.R_drew)); exact HO229.out) (Kd.R_base ho0) hb); have n5_ := Aside0.mk (Kd.N_elder' (by (with_reducible repeat (first | apply Kd.N_alloc | apply Kd.N_drewN | apply Kd.N_drew)); exact HO235.out) (Kd.R_base ho0) hb); have n6_ := Aside0.mk (Kd.R_lower (Kd.R_new' (Kd.R_new' (Kd.R_mono (ok' := fun k_ => True) ho0 (fun _ hk_ => trivial)) (Kd.R_lt (by (with_reducible repeat (first | apply Kd.R_alloc | apply Kd.R_drewN | apply Kd.R_drew)); exact HO216.out))) (Kd.R_lt (by (with_reducible repeat (first | apply Kd.R_alloc | apply Kd.R_drewN | apply Kd.R_drew)); exact HO229.out))) (below_size (by repeat (first | (with_reducible first | exact HB.out | apply below_alloc | apply pw_below_drewN | apply below_drew1) | exact HB.out)))); have n7_ := Aside0.mk (below_step (by repeat (first | (with_reducible first | exact HB.out | apply below_alloc | apply pw_below_drewN | apply below_drew1) | exact HB.out)) hb); clear HO213; clear HO216; clear HO218; clear HO224; clear HO229; clear HO235; clear HB; have HO213 := n0_; have HO216 := n1_; have HO218 := n2_; have HO224 := n3_; have HO229 := n4_; have HO235 := n5_; have HO238 := n6_; have HB := n7_; clear n0_ n1_ n2_ n3_ n4_ n5_ n6_ n7_; (try clear hb); (try clear hb2); (try clear hk); (try clear hi); (try clear ho0); (try clear A5); have hcv67 := own_string (P := Try.prog) Try.underlying25 Try.underlying5 Try.underlying9 (Kd.own_of_R HO216.out)))
          go_ret
          exact ⟨by first | rfl | (simp [errW_none, errW_some] <;> rfl) | (simp [*, errW_none, errW_some] <;> rfl), by repeat (first | (with_reducible first | exact HB.out | apply below_alloc | apply pw_below_drewN | apply below_drew1) | exact HB.out)⟩
      · rw [if_neg c25] at H
        have c25b0 : (t217 == 0) = false := beq_eq_false_iff_ne.mpr c25
        have c25b1 : (t217 != 0) = true := bne_iff_ne.mpr c25
        obtain rfl := Option.some.inj H
        obtain ⟨Ao68, co68, eo68⟩ := Kd.N_slice HO235.out
        subst eo68
        go_wp2_with (first | (go_at_call 25; (with_reducible refine (tlv_Write.calls k (fun k_ => (some k_ ≠ (.slice Ao12 y211.length co12 : Value).ownBlock ∧ (some k_ ≠ (v215 : Value).ownBlock ∧ (some k_ ≠ (.slice Ao17 t222.length co17 : Value).ownBlock ∧ some k_ ≠ (v228 : Value).ownBlock)))) _ _ y233 t236 t239 _ ?side1 A5.out).mono ?_); (case side1 => exact Kd.N_V (HO235.out)); rintro e w69 ⟨v237, rfl, ho0, hb⟩; have n0_ := Aside0.mk (Kd.N_elder' (by (with_reducible repeat (first | apply Kd.N_alloc | apply Kd.N_drewN | apply Kd.N_drew)); exact HO213.out) (Kd.R_base ho0) hb); have n1_ := Aside0.mk (Kd.R_elder' (by (with_reducible repeat (first | apply Kd.R_alloc | apply Kd.R_drewN | apply Kd.R_drew)); exact HO216.out) (Kd.R_base ho0) hb); have n2_ := Aside0.mk (Kd.V_elder' (by (with_reducible repeat (first | apply Kd.V_alloc | apply Kd.V_drewN | apply Kd.V_drew)); exact HO218.out) (Kd.R_base ho0) hb); have n3_ := Aside0.mk (Kd.N_elder' (by (with_reducible repeat (first | apply Kd.N_alloc | apply Kd.N_drewN | apply Kd.N_drew)); exact HO224.out) (Kd.R_base ho0) hb); have n4_ := Aside0.mk (Kd.R_elder' (by (with_reducible repeat (first | apply Kd.R_alloc | apply Kd.R_drewN | apply Kd.R_drew)); exact HO229.out) (Kd.R_base ho0) hb); have n5_ := Aside0.mk (Kd.N_elder' (by (with_reducible repeat (first | apply Kd.N_alloc | apply Kd.N_drewN | apply Kd.N_drew)); exact HO235.out) (Kd.R_base ho0) hb); have n6_ := Aside0.mk (Kd.R_lower (Kd.R_new' (Kd.R_new' (Kd.R_mono (ok' := fun k_ => True) ho0 (fun _ hk_ => trivial)) (Kd.R_lt (by (with_reducible repeat (first | apply Kd.R_alloc | apply Kd.R_drewN | apply Kd.R_drew)); exact HO216.out))) (Kd.R_lt (by (with_reducible repeat (first | apply Kd.R_alloc | apply Kd.R_drewN | apply Kd.R_drew)); exact HO229.out))) (below_size (by repeat (first | (with_reducible first | exact HB.out | apply below_alloc | apply pw_below_drewN | apply below_drew1) | exact HB.out)))); have n7_ := Aside0.mk (below_step (by repeat (first | (with_reducible first | exact HB.out | apply below_alloc | apply pw_below_drewN | apply below_drew1) | exact HB.out)) hb); clear HO213; clear HO216; clear HO218; clear HO224; clear HO229; clear HO235; clear HB; have HO213 := n0_; have HO216 := n1_; have HO218 := n2_; have HO224 := n3_; have HO229 := n4_; have HO235 := n5_; have HO238 := n6_; have HB := n7_; clear n0_ n1_ n2_ n3_ n4_ n5_ n6_ n7_; (try clear hb); (try clear hb2); (try clear hk); (try clear hi); (try clear ho0); (try clear A5); have hcv70 := own_string (P := Try.prog) Try.underlying25 Try.underlying5 Try.underlying9 (Kd.own_of_R HO216.out)))
        go_ret
        exact ⟨by first | rfl | (simp [errW_none, errW_some] <;> rfl) | (simp [*, errW_none, errW_some] <;> rfl), by repeat (first | (with_reducible first | exact HB.out | apply below_alloc | apply pw_below_drewN | apply below_drew1) | exact HB.out)⟩
    · rw [if_neg c24] at H
      have c24b0 : ((strOfNums t214).toList == ([53, 1, 1, 12, 0, 255] : List UInt8)) = false := beq_eq_false_iff_ne.mpr c24
      have c24b1 : ((strOfNums t214).toList != ([53, 1, 1, 12, 0, 255] : List UInt8)) = true := bne_iff_ne.mpr c24
      obtain rfl := Option.some.inj H
      obtain ⟨Ao71, co71, eo71⟩ := Kd.N_slice HO235.out
      subst eo71
      go_wp2_with (first | (go_at_call 25; (with_reducible refine (tlv_Write.calls k (fun k_ => (some k_ ≠ (.slice Ao12 y211.length co12 : Value).ownBlock ∧ (some k_ ≠ (v215 : Value).ownBlock ∧ (some k_ ≠ (.slice Ao17 t222.length co17 : Value).ownBlock ∧ some k_ ≠ (v228 : Value).ownBlock)))) _ _ y233 t236 t239 _ ?side1 A5.out).mono ?_); (case side1 => exact Kd.N_V (HO235.out)); rintro e w72 ⟨v237, rfl, ho0, hb⟩; have n0_ := Aside0.mk (Kd.N_elder' (by (with_reducible repeat (first | apply Kd.N_alloc | apply Kd.N_drewN | apply Kd.N_drew)); exact HO213.out) (Kd.R_base ho0) hb); have n1_ := Aside0.mk (Kd.R_elder' (by (with_reducible repeat (first | apply Kd.R_alloc | apply Kd.R_drewN | apply Kd.R_drew)); exact HO216.out) (Kd.R_base ho0) hb); have n2_ := Aside0.mk (Kd.V_elder' (by (with_reducible repeat (first | apply Kd.V_alloc | apply Kd.V_drewN | apply Kd.V_drew)); exact HO218.out) (Kd.R_base ho0) hb); have n3_ := Aside0.mk (Kd.N_elder' (by (with_reducible repeat (first | apply Kd.N_alloc | apply Kd.N_drewN | apply Kd.N_drew)); exact HO224.out) (Kd.R_base ho0) hb); have n4_ := Aside0.mk (Kd.R_elder' (by (with_reducible repeat (first | apply Kd.R_alloc | apply Kd.R_drewN | apply Kd.R_drew)); exact HO229.out) (Kd.R_base ho0) hb); have n5_ := Aside0.mk (Kd.N_elder' (by (with_reducible repeat (first | apply Kd.N_alloc | apply Kd.N_drewN | apply Kd.N_drew)); exact HO235.out) (Kd.R_base ho0) hb); have n6_ := Aside0.mk (Kd.R_lower (Kd.R_new' (Kd.R_new' (Kd.R_mono (ok' := fun k_ => True) ho0 (fun _ hk_ => trivial)) (Kd.R_lt (by (with_reducible repeat (first | apply Kd.R_alloc | apply Kd.R_drewN | apply Kd.R_drew)); exact HO216.out))) (Kd.R_lt (by (with_reducible repeat (first | apply Kd.R_alloc | apply Kd.R_drewN | apply Kd.R_drew)); exact HO229.out))) (below_size (by repeat (first | (with_reducible first | exact HB.out | apply below_alloc | apply pw_below_drewN | apply below_drew1) | exact HB.out)))); have n7_ := Aside0.mk (below_step (by repeat (first | (with_reducible first | exact HB.out | apply below_alloc | apply pw_below_drewN | apply below_drew1) | exact HB.out)) hb); clear HO213; clear HO216; clear HO218; clear HO224; clear HO229; clear HO235; clear HB; have HO213 := n0_; have HO216 := n1_; have HO218 := n2_; have HO224 := n3_; have HO229 := n4_; have HO235 := n5_; have HO238 := n6_; have HB := n7_; clear n0_ n1_ n2_ n3_ n4_ n5_ n6_ n7_; (try clear hb); (try clear hb2); (try clear hk); (try clear hi); (try clear ho0); (try clear A5); have hcv73 := own_string (P := Try.prog) Try.underlying25 Try.underlying5 Try.underlying9 (Kd.own_of_R HO216.out)))
      go_ret
      exact ⟨by first | rfl | (simp [errW_none, errW_some] <;> rfl) | (simp [*, errW_none, errW_some] <;> rfl), by repeat (first | (with_reducible first | exact HB.out | apply below_alloc | apply pw_below_drewN | apply below_drew1) | exact HB.out)⟩
  · rw [if_neg c4] at H
    exact absurd H (by simp)

/-! ### boarderref03_Find: function 22 -/
def boarderref03_Find.l0 : Nat → List (S70) → Int → Int → Option (List Int × Bool)
  | 0, _, _, _ => none
  | k + 1, x0, x1, x6 => if x6 < (x0.length : Int) then (if 0 ≤ x6 then (if ((rd_T70 x0 x6).f0) = x1 then (some ((rd_T70 x0 x6).f1, true)) else (boarderref03_Find.l0 k x0 x1 (wrap64 (x6 + 1)))) else (none)) else (some (([] : List Int), false))
def boarderref03_Find.f (k : Nat) (l0 : List (S70)) (a1 : Int) : Option (List Int × Bool) := boarderref03_Find.l0 k l0 a1 0
theorem boarderref03_Find.mono_l : ∀ k, (∀ y0 y1 y2, LeO (boarderref03_Find.l0 k y0 y1 y2) (boarderref03_Find.l0 (k + 1) y0 y1 y2))
  | 0 => fun _ _ _ r h => by simp [boarderref03_Find.l0] at h
  | k + 1 => by
    have ih0 := boarderref03_Find.mono_l k
    · intro y0 y1 y2
      unfold boarderref03_Find.l0
      repeat' first
      | (with_reducible exact ih0 _ _ _)
      | (with_reducible exact LeO.refl _)
      | (with_reducible exact LeO.none _)
      | (with_reducible refine LeO.ite ?_ ?_)
      | (with_reducible refine LeO.bind ?_ (fun _ => ?_))
      | exact ih0 _ _ _
      | exact LeO.none _
      | refine LeO.ite ?_ ?_
      | refine LeO.bind ?_ (fun _ => ?_)
theorem boarderref03_Find.mono : ∀ a0 a1 k, LeO (boarderref03_Find.f k a0 a1) (boarderref03_Find.f (k + 1) a0 a1) := by
  intro a0 a1 k
  have ih0 := boarderref03_Find.mono_l k
  unfold boarderref03_Find.f
  repeat' first
      | (with_reducible exact ih0 _ _ _)
      | (with_reducible exact LeO.refl _)
      | (with_reducible exact LeO.none _)
      | (with_reducible refine LeO.ite ?_ ?_)
      | (with_reducible refine LeO.bind ?_ (fun _ => ?_))
      | exact ih0 _ _ _
      | exact LeO.none _
      | refine LeO.ite ?_ ?_
      | refine LeO.bind ?_ (fun _ => ?_)
set_option maxHeartbeats 8000000 in
set_option maxRecDepth 100000 in
theorem boarderref03_Find.calls (k : Nat) (P0_ : Nat → Prop) (A0 : Option Addr) (c0 : Nat) (l0 : List (S70)) (a1 : Int) (r1 : List Int) (r2 : Bool) (w : World) (hs0 : Kd.V k70 70 w w.heap.size (fun k_ => P0_ k_) (.slice A0 l0.length c0) l0) (h : boarderref03_Find.f k l0 a1 = some (r1, r2)) :
    Calls Try.prog 22 #[.slice A0 l0.length c0, .int .i64 a1] w fun e w' => ∃ v0_ : Value, e = .returned (.tuple #[v0_, .bool r2]) ∧ Kd.V (Kd.int .u8) 5 w' w.heap.size (fun k_ => (P0_ k_ ∨ w.heap.size ≤ k_)) v0_ r1 ∧ Below w.heap.size w w' := by
  have HO0 := Aside0.mk (show Kd.V k70 70 w w.heap.size (fun k_ => (P0_ k_ ∨ w.heap.size ≤ k_)) (.slice A0 l0.length c0) l0 from Kd.V_mono hs0 (fun k_ hk => .inl hk))
  have HB := Aside0.mk (Below.refl w.heap.size w)
  have H : (boarderref03_Find.l0 k l0 a1 0) = some (r1, r2) := h
  clear h
  have H' := Aside0.mk H
  clear H
  go_enter Try.func22, Try.ntmps22
  go_wp2
  go_loopg [6] k (fun kq v6 w' => ∃ (x6_1 : Int), v6 = .int .i64 x6_1 ∧ Aside0 (boarderref03_Find.l0 kq l0 a1 x6_1 = some (r1, r2)) ∧ Aside0 (kq ≤ k) ∧ Aside0 (Kd.V k70 70 w' w.heap.size (fun k_ => (P0_ k_ ∨ w.heap.size ≤ k_)) (.slice A0 l0.length c0) l0) ∧ Aside0 (Below w.heap.size w w'))
  case atStart => exact ⟨(0), (by first | rfl | (simp; done) | (simp [*]; done)), H', ⟨Nat.le_refl _⟩, ⟨by (with_reducible repeat (first | apply Kd.V_alloc | apply Kd.V_drewN | apply Kd.V_drew)); exact HO0.out⟩, ⟨by repeat (first | (with_reducible first | exact HB.out | apply below_alloc | apply pw_below_drewN | apply below_drew1) | exact HB.out)⟩⟩
  case round =>
    clear H'
    try clear c2
    try clear p2
    obtain ⟨x6_1, rfl, HA, HK1, HO_0, HB⟩ := hrel
    cases gk with
    | zero => exact absurd HA.out (by simp [boarderref03_Find.l0])
    | succ k1 =>
      have H := HA.out
      clear HA
      simp only [boarderref03_Find.l0] at H
      by_cases c3 : x6_1 < (l0.length : Int)
      · rw [if_pos c3] at H
        have c3b0 : decide (x6_1 < (l0.length : Int)) = true := decide_eq_true c3
        clear c3
        by_cases c4 : 0 ≤ x6_1
        · rw [if_pos c4] at H
          have c4b0 : decide (0 ≤ x6_1) = true := decide_eq_true c4
          clear c4
          by_cases c5 : ((rd_T70 l0 x6_1).f0) = a1
          · rw [if_pos c5] at H
            have c5b0 : (((rd_T70 l0 x6_1).f0) == a1) = true := beq_iff_eq.mpr c5
            have c5b1 : (((rd_T70 l0 x6_1).f0) != a1) = false := bne_eq_false_iff_eq.mpr c5
            clear c5
            simp only [Option.some.injEq, Prod.mk.injEq] at H
            obtain ⟨rfl, rfl⟩ := H
            have p242 : 0 ≤ (x6_1 : Int) := of_decide_eq_true (by first | (with_reducible assumption) | assumption)
            have q242 : x6_1 < (l0.length : Int) := of_decide_eq_true (by first | (with_reducible assumption) | assumption)
            obtain ⟨ad242, A242_1, c242_1, e242, hx242_0, hx242_1, hl242_1, hi242_1⟩ := at_T70 (Kd.V_reads' HO_0.out).2.2 x6_1 p242 q242
            cases e242
            obtain ⟨ce242, hce242, hMe242, hcc242⟩ := Kd.V_get HO_0.out z70 x6_1 p242 (by first | exact q242 | exact of_decide_eq_true (by first | (with_reducible assumption) | assumption) | (have e_ := (Kd.V_reads' HO_0.out).1; omega))
            obtain ⟨ua242_1, uc242_1, rfl, ul242_1, ge242_1⟩ := k70_openF hMe242
            have hv242_1 := hcc242 1 _ rfl
            rw [add_field _ _ 1 (by omega)] at hv242_1
            replace hv242_1 := Option.some.inj (hv242_1.symm.trans hx242_1)
            injection hv242_1 with hva_ hvn_ hvc_
            rw [hva_] at ge242_1
            rw [hvc_] at ul242_1
            have HL242_1 := Aside0.mk (show Kd.V (Kd.int .u8) 5 _ w.heap.size _ _ ((rd_T70 l0 x6_1).f1) from Kd.V_mk ul242_1 ge242_1)
            clear hva_ hvn_ hvc_ ge242_1 ul242_1
            clear hcc242 hce242
            have HR242_1 := Aside0.mk hi242_1
            have HC242_1 := Aside0.mk hl242_1
            clear hi242_1 hl242_1
            replace p242 := eq_true p242
            replace q242 := eq_true q242
            have p243 : 0 ≤ (x6_1 : Int) := of_decide_eq_true (by first | (with_reducible assumption) | assumption)
            have q243 : x6_1 < (l0.length : Int) := of_decide_eq_true (by first | (with_reducible assumption) | assumption)
            obtain ⟨ad243, A243_1, c243_1, e243, hx243_0, hx243_1, hl243_1, hi243_1⟩ := at_T70 (Kd.V_reads' HO_0.out).2.2 x6_1 p243 q243
            obtain rfl : ad242 = ad243 := (by injection e243)
            obtain ⟨ce243, hce243, hMe243, hcc243⟩ := Kd.V_get HO_0.out z70 x6_1 p243 (by first | exact q243 | exact of_decide_eq_true (by first | (with_reducible assumption) | assumption) | (have e_ := (Kd.V_reads' HO_0.out).1; omega))
            obtain ⟨ua243_1, uc243_1, rfl, ul243_1, ge243_1⟩ := k70_openF hMe243
            have hv243_1 := hcc243 1 _ rfl
            rw [add_field _ _ 1 (by omega)] at hv243_1
            replace hv243_1 := Option.some.inj (hv243_1.symm.trans hx243_1)
            injection hv243_1 with hva_ hvn_ hvc_
            rw [hva_] at ge243_1
            rw [hvc_] at ul243_1
            have HL243_1 := Aside0.mk (show Kd.V (Kd.int .u8) 5 _ w.heap.size _ _ ((rd_T70 l0 x6_1).f1) from Kd.V_mk ul243_1 ge243_1)
            clear hva_ hvn_ hvc_ ge243_1 ul243_1
            clear hcc243 hce243
            have HR243_1 := Aside0.mk hi243_1
            have HC243_1 := Aside0.mk hl243_1
            clear hi243_1 hl243_1
            replace p243 := eq_true p243
            replace q243 := eq_true q243
            have ea_ := Option.some.inj (hx242_1.symm.trans hx243_1)
            injection ea_ with ea_ en_ ec_
            subst ea_
            subst ec_
            clear en_
            go_wp2
            go_ret2
            exact ⟨_, by first | rfl | (simp [errW_none, errW_some] <;> rfl) | (simp [*, errW_none, errW_some] <;> rfl), by (with_reducible repeat (first | apply Kd.V_alloc | apply Kd.V_drewN | apply Kd.V_drew)); exact HL243_1.out, by repeat (first | (with_reducible first | exact HB.out | apply below_alloc | apply pw_below_drewN | apply below_drew1) | exact HB.out)⟩
          · rw [if_neg c5] at H
            have c5b0 : (((rd_T70 l0 x6_1).f0) == a1) = false := beq_eq_false_iff_ne.mpr c5
            have c5b1 : (((rd_T70 l0 x6_1).f0) != a1) = true := bne_iff_ne.mpr c5
            have H' := Aside0.mk H
            clear H
            have p242 : 0 ≤ (x6_1 : Int) := of_decide_eq_true (by first | (with_reducible assumption) | assumption)
            have q242 : x6_1 < (l0.length : Int) := of_decide_eq_true (by first | (with_reducible assumption) | assumption)
            obtain ⟨ad242, A242_1, c242_1, e242, hx242_0, hx242_1, hl242_1, hi242_1⟩ := at_T70 (Kd.V_reads' HO_0.out).2.2 x6_1 p242 q242
            cases e242
            obtain ⟨ce242, hce242, hMe242, hcc242⟩ := Kd.V_get HO_0.out z70 x6_1 p242 (by first | exact q242 | exact of_decide_eq_true (by first | (with_reducible assumption) | assumption) | (have e_ := (Kd.V_reads' HO_0.out).1; omega))
            obtain ⟨ua242_1, uc242_1, rfl, ul242_1, ge242_1⟩ := k70_openF hMe242
            have hv242_1 := hcc242 1 _ rfl
            rw [add_field _ _ 1 (by omega)] at hv242_1
            replace hv242_1 := Option.some.inj (hv242_1.symm.trans hx242_1)
            injection hv242_1 with hva_ hvn_ hvc_
            rw [hva_] at ge242_1
            rw [hvc_] at ul242_1
            have HL242_1 := Aside0.mk (show Kd.V (Kd.int .u8) 5 _ w.heap.size _ _ ((rd_T70 l0 x6_1).f1) from Kd.V_mk ul242_1 ge242_1)
            clear hva_ hvn_ hvc_ ge242_1 ul242_1
            clear hcc242 hce242
            have HR242_1 := Aside0.mk hi242_1
            have HC242_1 := Aside0.mk hl242_1
            clear hi242_1 hl242_1
            replace p242 := eq_true p242
            replace q242 := eq_true q242
            go_wp2
            go_roundg k1
            case measure => have := HK1.out; omega
            case rel => exact ⟨(wrap64 (x6_1 + 1)), (by first | rfl | (simp; done) | (simp [*]; done)), H', ⟨by have := HK1.out; omega⟩, ⟨by (with_reducible repeat (first | apply Kd.V_alloc | apply Kd.V_drewN | apply Kd.V_drew)); exact HO_0.out⟩, ⟨by repeat (first | (with_reducible first | exact HB.out | apply below_alloc | apply pw_below_drewN | apply below_drew1) | exact HB.out)⟩⟩
        · rw [if_neg c4] at H
          exact absurd H (by simp)
      · rw [if_neg c3] at H
        have c3b0 : decide (x6_1 < (l0.length : Int)) = false := decide_eq_false c3
        clear c3
        simp only [Option.some.injEq, Prod.mk.injEq] at H
        obtain ⟨rfl, rfl⟩ := H
        go_wp2
        go_ret2
        exact ⟨_, by first | rfl | (simp [errW_none, errW_some] <;> rfl) | (simp [*, errW_none, errW_some] <;> rfl), (Kd.V_nil _ _ _ _ _), by repeat (first | (with_reducible first | exact HB.out | apply below_alloc | apply pw_below_drewN | apply below_drew1) | exact HB.out)⟩

/-! ### boarderref03_Has: function 57 -/
def boarderref03_Has.l0 : Nat → List (S70) → Int → Int → Int → Option (Int)
  | 0, _, _, _, _ => none
  | k + 1, x0, x1, x5, x6 => if x6 < (x0.length : Int) then (if 0 ≤ x6 then (if ((rd_T70 x0 x6).f0) = x1 then (boarderref03_Has.l0 k x0 x1 (wrap64 (x5 + 1)) (wrap64 (x6 + 1))) else (boarderref03_Has.l0 k x0 x1 x5 (wrap64 (x6 + 1)))) else (none)) else (some x5)
def boarderref03_Has.f (k : Nat) (l0 : List (S70)) (a1 : Int) : Option (Int) := boarderref03_Has.l0 k l0 a1 0 0
theorem boarderref03_Has.mono_l : ∀ k, (∀ y0 y1 y2 y3, LeO (boarderref03_Has.l0 k y0 y1 y2 y3) (boarderref03_Has.l0 (k + 1) y0 y1 y2 y3))
  | 0 => fun _ _ _ _ r h => by simp [boarderref03_Has.l0] at h
  | k + 1 => by
    have ih0 := boarderref03_Has.mono_l k
    · intro y0 y1 y2 y3
      unfold boarderref03_Has.l0
      repeat' first
      | (with_reducible exact ih0 _ _ _ _)
      | (with_reducible exact LeO.refl _)
      | (with_reducible exact LeO.none _)
      | (with_reducible refine LeO.ite ?_ ?_)
      | (with_reducible refine LeO.bind ?_ (fun _ => ?_))
      | exact ih0 _ _ _ _
      | exact LeO.none _
      | refine LeO.ite ?_ ?_
      | refine LeO.bind ?_ (fun _ => ?_)
theorem boarderref03_Has.mono : ∀ a0 a1 k, LeO (boarderref03_Has.f k a0 a1) (boarderref03_Has.f (k + 1) a0 a1) := by
  intro a0 a1 k
  have ih0 := boarderref03_Has.mono_l k
  unfold boarderref03_Has.f
  repeat' first
      | (with_reducible exact ih0 _ _ _ _)
      | (with_reducible exact LeO.refl _)
      | (with_reducible exact LeO.none _)
      | (with_reducible refine LeO.ite ?_ ?_)
      | (with_reducible refine LeO.bind ?_ (fun _ => ?_))
      | exact ih0 _ _ _ _
      | exact LeO.none _
      | refine LeO.ite ?_ ?_
      | refine LeO.bind ?_ (fun _ => ?_)
set_option maxHeartbeats 8000000 in
set_option maxRecDepth 100000 in
theorem boarderref03_Has.calls (k : Nat) (A0 : Option Addr) (c0 : Nat) (l0 : List (S70)) (a1 : Int) (r : Int) (w : World) (hr0 : Kd.C k70 w A0 l0.length l0) (hc0 : l0.length ≤ c0) (h : boarderref03_Has.f k l0 a1 = some r) :
    Calls Try.prog 57 #[.slice A0 l0.length c0, .int .i64 a1] w fun e w' => e = .returned (.int .i64 r) ∧ Drawn0 w w' := by
  have HR0 := Aside0.mk hr0
  have HC0 := Aside0.mk hc0
  clear hr0 hc0
  have H : (boarderref03_Has.l0 k l0 a1 0 0) = some r := h
  clear h
  have H' := Aside0.mk H
  clear H
  go_enter Try.func57, Try.ntmps57
  go_wp2
  go_loopg [5, 6] k (fun kq v5 v6 w' => ∃ (x5_1 : Int) (x6_1 : Int), v5 = .int .i64 x5_1 ∧ v6 = .int .i64 x6_1 ∧ Aside0 (boarderref03_Has.l0 kq l0 a1 x5_1 x6_1 = some r) ∧ Aside0 (kq ≤ k) ∧ Drawn0 w w')
  case atStart => exact ⟨(0), (0), (by first | rfl | (simp; done) | (simp [*]; done)), (by first | rfl | (simp; done) | (simp [*]; done)), H', ⟨Nat.le_refl _⟩, by repeat (first | exact Drawn0.refl _ | apply Drawn0.step)⟩
  case round =>
    clear H'
    try clear p2
    obtain ⟨x5_1, x6_1, rfl, rfl, HA, HK1, ⟨m1, rfl⟩⟩ := hrel
    cases gk with
    | zero => exact absurd HA.out (by simp [boarderref03_Has.l0])
    | succ k1 =>
      have H := HA.out
      clear HA
      simp only [boarderref03_Has.l0] at H
      by_cases c3 : x6_1 < (l0.length : Int)
      · rw [if_pos c3] at H
        have c3b0 : decide (x6_1 < (l0.length : Int)) = true := decide_eq_true c3
        clear c3
        by_cases c4 : 0 ≤ x6_1
        · rw [if_pos c4] at H
          have c4b0 : decide (0 ≤ x6_1) = true := decide_eq_true c4
          clear c4
          by_cases c5 : ((rd_T70 l0 x6_1).f0) = a1
          · rw [if_pos c5] at H
            have c5b0 : (((rd_T70 l0 x6_1).f0) == a1) = true := beq_iff_eq.mpr c5
            have c5b1 : (((rd_T70 l0 x6_1).f0) != a1) = false := bne_eq_false_iff_eq.mpr c5
            clear c5
            have H' := Aside0.mk H
            clear H
            have p244 : 0 ≤ (x6_1 : Int) := of_decide_eq_true (by first | (with_reducible assumption) | assumption)
            have q244 : x6_1 < (l0.length : Int) := of_decide_eq_true (by first | (with_reducible assumption) | assumption)
            obtain ⟨ad244, A244_1, c244_1, e244, hx244_0, hx244_1, hl244_1, hi244_1⟩ := at_T70 HR0.out x6_1 p244 q244
            have hz244_1 := hx244_1
            cases e244
            have HR244_1 := Aside0.mk hi244_1
            have HC244_1 := Aside0.mk hl244_1
            clear hi244_1 hl244_1
            replace p244 := eq_true p244
            replace q244 := eq_true q244
            go_wp2
            go_roundg k1
            case measure => have := HK1.out; omega
            case rel => exact ⟨(wrap64 (x5_1 + 1)), (wrap64 (x6_1 + 1)), (by first | rfl | (simp; done) | (simp [*]; done)), (by first | rfl | (simp; done) | (simp [*]; done)), H', ⟨by have := HK1.out; omega⟩, by repeat (first | exact Drawn0.refl _ | apply Drawn0.step)⟩
          · rw [if_neg c5] at H
            have c5b0 : (((rd_T70 l0 x6_1).f0) == a1) = false := beq_eq_false_iff_ne.mpr c5
            have c5b1 : (((rd_T70 l0 x6_1).f0) != a1) = true := bne_iff_ne.mpr c5
            have H' := Aside0.mk H
            clear H
            have p244 : 0 ≤ (x6_1 : Int) := of_decide_eq_true (by first | (with_reducible assumption) | assumption)
            have q244 : x6_1 < (l0.length : Int) := of_decide_eq_true (by first | (with_reducible assumption) | assumption)
            obtain ⟨ad244, A244_1, c244_1, e244, hx244_0, hx244_1, hl244_1, hi244_1⟩ := at_T70 HR0.out x6_1 p244 q244
            have hz244_1 := hx244_1
            cases e244
            have HR244_1 := Aside0.mk hi244_1
            have HC244_1 := Aside0.mk hl244_1
            clear hi244_1 hl244_1
            replace p244 := eq_true p244
            replace q244 := eq_true q244
            go_wp2
            go_roundg k1
            case measure => have := HK1.out; omega
            case rel => exact ⟨(x5_1), (wrap64 (x6_1 + 1)), (by first | rfl | (simp; done) | (simp [*]; done)), (by first | rfl | (simp; done) | (simp [*]; done)), H', ⟨by have := HK1.out; omega⟩, by repeat (first | exact Drawn0.refl _ | apply Drawn0.step)⟩
        · rw [if_neg c4] at H
          exact absurd H (by simp)
      · rw [if_neg c3] at H
        have c3b0 : decide (x6_1 < (l0.length : Int)) = false := decide_eq_false c3
        clear c3
        obtain rfl := Option.some.inj H
        go_wp2
        go_ret
        exact ⟨by first | rfl | (simp; done) | (simp [*]; done), by repeat (first | exact Drawn0.refl _ | apply Drawn0.step)⟩

/-! ### boarderref03_Right: function 24 -/
def boarderref03_Right.l0 : Nat → List (S70) → Int → Option (Bool)
  | 0, _, _ => none
  | k + 1, x0, x3 => if x3 < (x0.length : Int) then (if 0 ≤ x3 then (if ((rd_T70 x0 x3).f0) < 1 then (some false) else (if ((rd_T70 x0 x3).f0) > 254 then (some false) else (if (((rd_T70 x0 x3).f1).length : Int) > 600 then (some false) else ((boarderref03_Has.f k x0 ((rd_T70 x0 x3).f0)).bind fun t249 => (if t249 > 1 then (some false) else (boarderref03_Right.l0 k x0 (wrap64 (x3 + 1)))))))) else (none)) else (some true)
def boarderref03_Right.f (k : Nat) (l0 : List (S70)) : Option (Bool) := if (l0.length : Int) > 60 then (some false) else (boarderref03_Right.l0 k l0 0)
theorem boarderref03_Right.mono_l : ∀ k, (∀ y0 y1, LeO (boarderref03_Right.l0 k y0 y1) (boarderref03_Right.l0 (k + 1) y0 y1))
  | 0 => fun _ _ r h => by simp [boarderref03_Right.l0] at h
  | k + 1 => by
    have ih0 := boarderref03_Right.mono_l k
    · intro y0 y1
      unfold boarderref03_Right.l0
      repeat' first
      | (with_reducible exact ih0 _ _)
      | (with_reducible exact boarderref03_Has.mono _ _ _)
      | (with_reducible exact LeO.refl _)
      | (with_reducible exact LeO.none _)
      | (with_reducible refine LeO.ite ?_ ?_)
      | (with_reducible refine LeO.bind ?_ (fun _ => ?_))
      | exact ih0 _ _
      | exact boarderref03_Has.mono _ _ _
      | exact LeO.none _
      | refine LeO.ite ?_ ?_
      | refine LeO.bind ?_ (fun _ => ?_)
theorem boarderref03_Right.mono : ∀ a0 k, LeO (boarderref03_Right.f k a0) (boarderref03_Right.f (k + 1) a0) := by
  intro a0 k
  have ih0 := boarderref03_Right.mono_l k
  unfold boarderref03_Right.f
  repeat' first
      | (with_reducible exact ih0 _ _)
      | (with_reducible exact boarderref03_Has.mono _ _ _)
      | (with_reducible exact LeO.refl _)
      | (with_reducible exact LeO.none _)
      | (with_reducible refine LeO.ite ?_ ?_)
      | (with_reducible refine LeO.bind ?_ (fun _ => ?_))
      | exact ih0 _ _
      | exact boarderref03_Has.mono _ _ _
      | exact LeO.none _
      | refine LeO.ite ?_ ?_
      | refine LeO.bind ?_ (fun _ => ?_)
set_option maxHeartbeats 8000000 in
set_option maxRecDepth 100000 in
theorem boarderref03_Right.calls (k : Nat) (A0 : Option Addr) (c0 : Nat) (l0 : List (S70)) (r : Bool) (w : World) (hr0 : Kd.C k70 w A0 l0.length l0) (hc0 : l0.length ≤ c0) (h : boarderref03_Right.f k l0 = some r) :
    Calls Try.prog 24 #[.slice A0 l0.length c0] w fun e w' => e = .returned (.bool r) ∧ Drawn0 w w' := by
  have HR0 := Aside0.mk hr0
  have HC0 := Aside0.mk hc0
  clear hr0 hc0
  have H : (if (l0.length : Int) > 60 then (some false) else (boarderref03_Right.l0 k l0 0)) = some r := h
  clear h
  by_cases c2 : (l0.length : Int) > 60
  · rw [if_pos c2] at H
    have c2b0 : decide (60 < (l0.length : Int)) = true := decide_eq_true c2
    have c2b1 : decide (60 < l0.length) = true := decide_eq_true (by omega)
    clear c2
    obtain rfl := Option.some.inj H
    go_enter Try.func24, Try.ntmps24
    go_wp2
    go_ret
    exact ⟨by first | rfl | (simp; done) | (simp [*]; done), by repeat (first | exact Drawn0.refl _ | apply Drawn0.step)⟩
  · rw [if_neg c2] at H
    have c2b0 : decide (60 < (l0.length : Int)) = false := decide_eq_false c2
    have c2b1 : decide (60 < l0.length) = false := decide_eq_false (by omega)
    clear c2
    have H' := Aside0.mk H
    clear H
    go_enter Try.func24, Try.ntmps24
    go_wp2
    go_loopg [3] k (fun kq v3 w' => ∃ (x3_1 : Int), v3 = .int .i64 x3_1 ∧ Aside0 (boarderref03_Right.l0 kq l0 x3_1 = some r) ∧ Aside0 (kq ≤ k) ∧ Drawn0 w w')
    case atStart => exact ⟨(0), (by first | rfl | (simp; done) | (simp [*]; done)), H', ⟨Nat.le_refl _⟩, by repeat (first | exact Drawn0.refl _ | apply Drawn0.step)⟩
    case round =>
      clear H'
      try clear c2
      try clear c2b0
      try clear c2b1
      try clear p2
      obtain ⟨x3_1, rfl, HA, HK1, ⟨m1, rfl⟩⟩ := hrel
      cases gk with
      | zero => exact absurd HA.out (by simp [boarderref03_Right.l0])
      | succ k1 =>
        have H := HA.out
        clear HA
        simp only [boarderref03_Right.l0] at H
        by_cases c3 : x3_1 < (l0.length : Int)
        · rw [if_pos c3] at H
          have c3b0 : decide (x3_1 < (l0.length : Int)) = true := decide_eq_true c3
          clear c3
          by_cases c4 : 0 ≤ x3_1
          · rw [if_pos c4] at H
            have c4b0 : decide (0 ≤ x3_1) = true := decide_eq_true c4
            clear c4
            by_cases c5 : ((rd_T70 l0 x3_1).f0) < 1
            · rw [if_pos c5] at H
              have c5b0 : decide (((rd_T70 l0 x3_1).f0) < 1) = true := decide_eq_true c5
              clear c5
              obtain rfl := Option.some.inj H
              have p245 : 0 ≤ (x3_1 : Int) := of_decide_eq_true (by first | (with_reducible assumption) | assumption)
              have q245 : x3_1 < (l0.length : Int) := of_decide_eq_true (by first | (with_reducible assumption) | assumption)
              obtain ⟨ad245, A245_1, c245_1, e245, hx245_0, hx245_1, hl245_1, hi245_1⟩ := at_T70 HR0.out x3_1 p245 q245
              have hz245_1 := hx245_1
              cases e245
              have HR245_1 := Aside0.mk hi245_1
              have HC245_1 := Aside0.mk hl245_1
              clear hi245_1 hl245_1
              replace p245 := eq_true p245
              replace q245 := eq_true q245
              go_wp2
              go_ret
              exact ⟨by first | rfl | (simp; done) | (simp [*]; done), by repeat (first | exact Drawn0.refl _ | apply Drawn0.step)⟩
            · rw [if_neg c5] at H
              have c5b0 : decide (((rd_T70 l0 x3_1).f0) < 1) = false := decide_eq_false c5
              clear c5
              by_cases c6 : ((rd_T70 l0 x3_1).f0) > 254
              · rw [if_pos c6] at H
                have c6b0 : decide (254 < ((rd_T70 l0 x3_1).f0)) = true := decide_eq_true c6
                clear c6
                obtain rfl := Option.some.inj H
                have p245 : 0 ≤ (x3_1 : Int) := of_decide_eq_true (by first | (with_reducible assumption) | assumption)
                have q245 : x3_1 < (l0.length : Int) := of_decide_eq_true (by first | (with_reducible assumption) | assumption)
                obtain ⟨ad245, A245_1, c245_1, e245, hx245_0, hx245_1, hl245_1, hi245_1⟩ := at_T70 HR0.out x3_1 p245 q245
                have hz245_1 := hx245_1
                cases e245
                have HR245_1 := Aside0.mk hi245_1
                have HC245_1 := Aside0.mk hl245_1
                clear hi245_1 hl245_1
                replace p245 := eq_true p245
                replace q245 := eq_true q245
                have p246 : 0 ≤ (x3_1 : Int) := of_decide_eq_true (by first | (with_reducible assumption) | assumption)
                have q246 : x3_1 < (l0.length : Int) := of_decide_eq_true (by first | (with_reducible assumption) | assumption)
                obtain ⟨ad246, A246_1, c246_1, e246, hx246_0, hx246_1, hl246_1, hi246_1⟩ := at_T70 HR0.out x3_1 p246 q246
                obtain rfl : ad245 = ad246 := (by injection e246)
                have HR246_1 := Aside0.mk hi246_1
                have HC246_1 := Aside0.mk hl246_1
                clear hi246_1 hl246_1
                replace p246 := eq_true p246
                replace q246 := eq_true q246
                have ea_ := Option.some.inj (hx245_1.symm.trans hx246_1)
                injection ea_ with ea_ en_ ec_
                subst ea_
                subst ec_
                clear en_
                go_wp2
                go_ret
                exact ⟨by first | rfl | (simp; done) | (simp [*]; done), by repeat (first | exact Drawn0.refl _ | apply Drawn0.step)⟩
              · rw [if_neg c6] at H
                have c6b0 : decide (254 < ((rd_T70 l0 x3_1).f0)) = false := decide_eq_false c6
                clear c6
                by_cases c7 : (((rd_T70 l0 x3_1).f1).length : Int) > 600
                · rw [if_pos c7] at H
                  have c7b0 : decide (600 < (((rd_T70 l0 x3_1).f1).length : Int)) = true := decide_eq_true c7
                  have c7b1 : decide (600 < ((rd_T70 l0 x3_1).f1).length) = true := decide_eq_true (by omega)
                  clear c7
                  obtain rfl := Option.some.inj H
                  have p245 : 0 ≤ (x3_1 : Int) := of_decide_eq_true (by first | (with_reducible assumption) | assumption)
                  have q245 : x3_1 < (l0.length : Int) := of_decide_eq_true (by first | (with_reducible assumption) | assumption)
                  obtain ⟨ad245, A245_1, c245_1, e245, hx245_0, hx245_1, hl245_1, hi245_1⟩ := at_T70 HR0.out x3_1 p245 q245
                  have hz245_1 := hx245_1
                  cases e245
                  have HR245_1 := Aside0.mk hi245_1
                  have HC245_1 := Aside0.mk hl245_1
                  clear hi245_1 hl245_1
                  replace p245 := eq_true p245
                  replace q245 := eq_true q245
                  have p246 : 0 ≤ (x3_1 : Int) := of_decide_eq_true (by first | (with_reducible assumption) | assumption)
                  have q246 : x3_1 < (l0.length : Int) := of_decide_eq_true (by first | (with_reducible assumption) | assumption)
                  obtain ⟨ad246, A246_1, c246_1, e246, hx246_0, hx246_1, hl246_1, hi246_1⟩ := at_T70 HR0.out x3_1 p246 q246
                  obtain rfl : ad245 = ad246 := (by injection e246)
                  have HR246_1 := Aside0.mk hi246_1
                  have HC246_1 := Aside0.mk hl246_1
                  clear hi246_1 hl246_1
                  replace p246 := eq_true p246
                  replace q246 := eq_true q246
                  have ea_ := Option.some.inj (hx245_1.symm.trans hx246_1)
                  injection ea_ with ea_ en_ ec_
                  subst ea_
                  subst ec_
                  clear en_
                  have p247 : 0 ≤ (x3_1 : Int) := of_decide_eq_true (by first | (with_reducible assumption) | assumption)
                  have q247 : x3_1 < (l0.length : Int) := of_decide_eq_true (by first | (with_reducible assumption) | assumption)
                  obtain ⟨ad247, A247_1, c247_1, e247, hx247_0, hx247_1, hl247_1, hi247_1⟩ := at_T70 HR0.out x3_1 p247 q247
                  obtain rfl : ad245 = ad247 := (by injection e247)
                  have HR247_1 := Aside0.mk hi247_1
                  have HC247_1 := Aside0.mk hl247_1
                  clear hi247_1 hl247_1
                  replace p247 := eq_true p247
                  replace q247 := eq_true q247
                  have ea_ := Option.some.inj (hx245_1.symm.trans hx247_1)
                  injection ea_ with ea_ en_ ec_
                  subst ea_
                  subst ec_
                  clear en_
                  go_wp2
                  go_ret
                  exact ⟨by first | rfl | (simp; done) | (simp [*]; done), by repeat (first | exact Drawn0.refl _ | apply Drawn0.step)⟩
                · rw [if_neg c7] at H
                  have c7b0 : decide (600 < (((rd_T70 l0 x3_1).f1).length : Int)) = false := decide_eq_false c7
                  have c7b1 : decide (600 < ((rd_T70 l0 x3_1).f1).length) = false := decide_eq_false (by omega)
                  clear c7
                  replace H := Option.bind_eq_some_iff.mp H
                  obtain ⟨t249, A80, H⟩ := H
                  replace H : (if t249 > 1 then (some false) else (boarderref03_Right.l0 k1 l0 (wrap64 (x3_1 + 1)))) = some r := H
                  have A8 := Aside0.mk A80
                  clear A80
                  by_cases c9 : t249 > 1
                  · rw [if_pos c9] at H
                    have c9b0 : decide (1 < t249) = true := decide_eq_true c9
                    clear c9
                    obtain rfl := Option.some.inj H
                    have p245 : 0 ≤ (x3_1 : Int) := of_decide_eq_true (by first | (with_reducible assumption) | assumption)
                    have q245 : x3_1 < (l0.length : Int) := of_decide_eq_true (by first | (with_reducible assumption) | assumption)
                    obtain ⟨ad245, A245_1, c245_1, e245, hx245_0, hx245_1, hl245_1, hi245_1⟩ := at_T70 HR0.out x3_1 p245 q245
                    have hz245_1 := hx245_1
                    cases e245
                    have HR245_1 := Aside0.mk hi245_1
                    have HC245_1 := Aside0.mk hl245_1
                    clear hi245_1 hl245_1
                    replace p245 := eq_true p245
                    replace q245 := eq_true q245
                    have p246 : 0 ≤ (x3_1 : Int) := of_decide_eq_true (by first | (with_reducible assumption) | assumption)
                    have q246 : x3_1 < (l0.length : Int) := of_decide_eq_true (by first | (with_reducible assumption) | assumption)
                    obtain ⟨ad246, A246_1, c246_1, e246, hx246_0, hx246_1, hl246_1, hi246_1⟩ := at_T70 HR0.out x3_1 p246 q246
                    obtain rfl : ad245 = ad246 := (by injection e246)
                    have HR246_1 := Aside0.mk hi246_1
                    have HC246_1 := Aside0.mk hl246_1
                    clear hi246_1 hl246_1
                    replace p246 := eq_true p246
                    replace q246 := eq_true q246
                    have ea_ := Option.some.inj (hx245_1.symm.trans hx246_1)
                    injection ea_ with ea_ en_ ec_
                    subst ea_
                    subst ec_
                    clear en_
                    have p247 : 0 ≤ (x3_1 : Int) := of_decide_eq_true (by first | (with_reducible assumption) | assumption)
                    have q247 : x3_1 < (l0.length : Int) := of_decide_eq_true (by first | (with_reducible assumption) | assumption)
                    obtain ⟨ad247, A247_1, c247_1, e247, hx247_0, hx247_1, hl247_1, hi247_1⟩ := at_T70 HR0.out x3_1 p247 q247
                    obtain rfl : ad245 = ad247 := (by injection e247)
                    have HR247_1 := Aside0.mk hi247_1
                    have HC247_1 := Aside0.mk hl247_1
                    clear hi247_1 hl247_1
                    replace p247 := eq_true p247
                    replace q247 := eq_true q247
                    have ea_ := Option.some.inj (hx245_1.symm.trans hx247_1)
                    injection ea_ with ea_ en_ ec_
                    subst ea_
                    subst ec_
                    clear en_
                    have p248 : 0 ≤ (x3_1 : Int) := of_decide_eq_true (by first | (with_reducible assumption) | assumption)
                    have q248 : x3_1 < (l0.length : Int) := of_decide_eq_true (by first | (with_reducible assumption) | assumption)
                    obtain ⟨ad248, A248_1, c248_1, e248, hx248_0, hx248_1, hl248_1, hi248_1⟩ := at_T70 HR0.out x3_1 p248 q248
                    obtain rfl : ad245 = ad248 := (by injection e248)
                    have HR248_1 := Aside0.mk hi248_1
                    have HC248_1 := Aside0.mk hl248_1
                    clear hi248_1 hl248_1
                    replace p248 := eq_true p248
                    replace q248 := eq_true q248
                    have ea_ := Option.some.inj (hx245_1.symm.trans hx248_1)
                    injection ea_ with ea_ en_ ec_
                    subst ea_
                    subst ec_
                    clear en_
                    go_wp2_with (first | (go_at_call 57; (with_reducible refine (boarderref03_Has.calls k1 _ _ l0 ((rd_T70 l0 x3_1).f0) t249 _ ?side1 ?side2 A8.out).mono ?_); (case side1 => repeat (first | exact HR0.out | (with_reducible refine Kd.C_alloc ?_ _) | (with_reducible refine Kd.C_drewN ?_ _) | (with_reducible refine Kd.C_drew ?_))); (case side2 => exact HC0.out); rintro e w' ⟨rfl, ⟨nd, rfl⟩⟩; skip))
                    go_ret
                    exact ⟨by first | rfl | (simp; done) | (simp [*]; done), by repeat (first | exact Drawn0.refl _ | apply Drawn0.step)⟩
                  · rw [if_neg c9] at H
                    have c9b0 : decide (1 < t249) = false := decide_eq_false c9
                    clear c9
                    have H' := Aside0.mk H
                    clear H
                    have p245 : 0 ≤ (x3_1 : Int) := of_decide_eq_true (by first | (with_reducible assumption) | assumption)
                    have q245 : x3_1 < (l0.length : Int) := of_decide_eq_true (by first | (with_reducible assumption) | assumption)
                    obtain ⟨ad245, A245_1, c245_1, e245, hx245_0, hx245_1, hl245_1, hi245_1⟩ := at_T70 HR0.out x3_1 p245 q245
                    have hz245_1 := hx245_1
                    cases e245
                    have HR245_1 := Aside0.mk hi245_1
                    have HC245_1 := Aside0.mk hl245_1
                    clear hi245_1 hl245_1
                    replace p245 := eq_true p245
                    replace q245 := eq_true q245
                    have p246 : 0 ≤ (x3_1 : Int) := of_decide_eq_true (by first | (with_reducible assumption) | assumption)
                    have q246 : x3_1 < (l0.length : Int) := of_decide_eq_true (by first | (with_reducible assumption) | assumption)
                    obtain ⟨ad246, A246_1, c246_1, e246, hx246_0, hx246_1, hl246_1, hi246_1⟩ := at_T70 HR0.out x3_1 p246 q246
                    obtain rfl : ad245 = ad246 := (by injection e246)
                    have HR246_1 := Aside0.mk hi246_1
                    have HC246_1 := Aside0.mk hl246_1
                    clear hi246_1 hl246_1
                    replace p246 := eq_true p246
                    replace q246 := eq_true q246
                    have ea_ := Option.some.inj (hx245_1.symm.trans hx246_1)
                    injection ea_ with ea_ en_ ec_
                    subst ea_
                    subst ec_
                    clear en_
                    have p247 : 0 ≤ (x3_1 : Int) := of_decide_eq_true (by first | (with_reducible assumption) | assumption)
                    have q247 : x3_1 < (l0.length : Int) := of_decide_eq_true (by first | (with_reducible assumption) | assumption)
                    obtain ⟨ad247, A247_1, c247_1, e247, hx247_0, hx247_1, hl247_1, hi247_1⟩ := at_T70 HR0.out x3_1 p247 q247
                    obtain rfl : ad245 = ad247 := (by injection e247)
                    have HR247_1 := Aside0.mk hi247_1
                    have HC247_1 := Aside0.mk hl247_1
                    clear hi247_1 hl247_1
                    replace p247 := eq_true p247
                    replace q247 := eq_true q247
                    have ea_ := Option.some.inj (hx245_1.symm.trans hx247_1)
                    injection ea_ with ea_ en_ ec_
                    subst ea_
                    subst ec_
                    clear en_
                    have p248 : 0 ≤ (x3_1 : Int) := of_decide_eq_true (by first | (with_reducible assumption) | assumption)
                    have q248 : x3_1 < (l0.length : Int) := of_decide_eq_true (by first | (with_reducible assumption) | assumption)
                    obtain ⟨ad248, A248_1, c248_1, e248, hx248_0, hx248_1, hl248_1, hi248_1⟩ := at_T70 HR0.out x3_1 p248 q248
                    obtain rfl : ad245 = ad248 := (by injection e248)
                    have HR248_1 := Aside0.mk hi248_1
                    have HC248_1 := Aside0.mk hl248_1
                    clear hi248_1 hl248_1
                    replace p248 := eq_true p248
                    replace q248 := eq_true q248
                    have ea_ := Option.some.inj (hx245_1.symm.trans hx248_1)
                    injection ea_ with ea_ en_ ec_
                    subst ea_
                    subst ec_
                    clear en_
                    go_wp2_with (first | (go_at_call 57; (with_reducible refine (boarderref03_Has.calls k1 _ _ l0 ((rd_T70 l0 x3_1).f0) t249 _ ?side1 ?side2 A8.out).mono ?_); (case side1 => repeat (first | exact HR0.out | (with_reducible refine Kd.C_alloc ?_ _) | (with_reducible refine Kd.C_drewN ?_ _) | (with_reducible refine Kd.C_drew ?_))); (case side2 => exact HC0.out); rintro e w' ⟨rfl, ⟨nd, rfl⟩⟩; skip))
                    go_roundg k1
                    case measure => have := HK1.out; omega
                    case rel => exact ⟨(wrap64 (x3_1 + 1)), (by first | rfl | (simp; done) | (simp [*]; done)), H', ⟨by have := HK1.out; omega⟩, by repeat (first | exact Drawn0.refl _ | apply Drawn0.step)⟩
          · rw [if_neg c4] at H
            exact absurd H (by simp)
        · rw [if_neg c3] at H
          have c3b0 : decide (x3_1 < (l0.length : Int)) = false := decide_eq_false c3
          clear c3
          obtain rfl := Option.some.inj H
          go_wp2
          go_ret
          exact ⟨by first | rfl | (simp; done) | (simp [*]; done), by repeat (first | exact Drawn0.refl _ | apply Drawn0.step)⟩

end Go.Proofs.Ytiklcnlehlpdaaa.PTlv
