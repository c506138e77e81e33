-- printed by a program of this session, made after the kit's own printer
import Derived.Test.YtiklcnlehlpdaaaRows
import Derived.Test.YtiklcnlehlpdaaaPOpsx11
import Derived.Test.YtiklcnlehlpdaaaPureClassOthers
import Derived.WalkKit
import Derived.ProofKit
import Derived.OpenShut
import Derived.ShutString
import Derived.ChangeOld
import Derived.Below
import Derived.SizedLaws
import Derived.Test.YtiklcnlehlpdaaaWSized
namespace Go.Proofs.Ytiklcnlehlpdaaa.classOthers
open Go.ChangeShapes Go.WideShapes Go.ChangeAt Go.RowKit
open Go.ChangeMaps (open_string shut_string)
set_option linter.unusedVariables false
theorem own : ownKnob Try.prog.godebug = none := by kernel_rfl
theorem laidOut : laidOutB Try.prog = true := by kernel_rfl
def IsRow (k : IntKind) (w : World) (a : Option Addr) (len cap : Nat) (zs : List Int) : Prop :=
  (a = none ∧ len = 0 ∧ cap = 0 ∧ zs = []) ∨
  ∃ x, a = some x ∧ len ≤ cap ∧ cap ≤ maxLen ∧ zs.length = cap ∧ (∀ i, i < zs.length → w.cell? (x.add i) = some (.int k (zs.getD i 0))) ∧ ∀ n ∈ zs, (Lit.int k n).wf = true
set_option maxRecDepth 100000 in
theorem lifted (os : Os) (started : os.Started) (H : Type) (enc : TypeId × Value → H) :
    ReturnsInHanded {} Try.checked os 18 .any (Rows.classOthersSpec.pre6 enc Try.prog Try.f18 Rows.classOthersRow.domain false) (Rows.classOthersSpec.post enc Try.prog Try.f18 false true false false) := by
  refine returnsInHanded_of_change_sized (C := Try.checked) own started (by kernel_rfl) Try.func18
    (ChangeSpec.witness6 (enc := enc) (C := Try.checked) false ⟨#[], #[.agg #[.int .i64 0, .int .i64 0, .int .i64 0, .int .i64 0, .int .i64 0, .int .i64 0, .int .i64 0, .int .i64 0, .int .i64 0, .int .i64 0, .int .i64 0, .slice none 0 0, .slice none 0 0], .int .i64 0], []⟩ 8 (by kernel_rfl) (by kernel_rfl) (by kernel_rfl) (by kernel_rfl)) ?_
  intro W base args ds gs before hval0 hW hcnd hsz0 _
  have hsz : (DataW.weightsEach Try.prog (Try.f18.params.toList ++ Rows.classOthersSpec.plain.varTypes Try.prog) (ds ++ gs)).all (· ≤ reachBytes) = true := hsz0
  have hval : ∀ (j : Nat) t v, Try.f18.params[j]? = some t → args[j]? = some v → Value.okWide Try.prog W .any base t v := hval0
  have hW' := hW
  obtain ⟨p, q, hA0, hV, rfl, hfz, hnd⟩ := hW
  have hA : DataW.TrodAll enc Try.prog W 0 (fun _ => true) true Try.f18.params.toList args.toList ds p := hA0
  rw [Try.params18] at hA hval hsz
  obtain ⟨v0, vs0, d0, ds0, p0, q0, hargs, rfl, rfl, h0, r0⟩ := trodAll_cons hA
  obtain ⟨v1, vs1, d1, ds1, p1, q1, rfl, rfl, rfl, h1, r1⟩ := trodAll_cons r0
  obtain ⟨rfl, rfl, rfl⟩ := trodAll_nil r1
  obtain rfl : args = #[v0, v1] := by cases args; simp_all
  obtain ⟨rfl, rfl⟩ := trodVars_none hV
  obtain ⟨cs0, rfl, hsz0⟩ := okWide_struct Try.underlying42 (hval 0 42 v0 rfl rfl)
  have k0 := h0
  have lt0 : ∀ x ∈ p0, x.block < W.heap.size := by obtain ⟨m, hm⟩ := k0; exact DataW.trod_lt m _ _ _ hm
  obtain ⟨fuel0, hf0⟩ := h0
  obtain ⟨b0, hK0, hw0⟩ := POps.opens42.2 enc W fuel0 _ _ hf0
  obtain ⟨A0_11, c0_11, A0_12, c0_12, hcs0, hl0_11, hC0_11, hl0_12, hC0_12⟩ := POps.k42_open hK0
  have hcs0' : cs0.toList = _ := hcs0
  have hcs0'' := congrArg List.toArray hcs0'
  rw [Array.toArray_toList] at hcs0''
  subst hcs0''
  obtain ⟨a1, rfl, rfl, rfl, w1⟩ := open_int Try.underlying3 (hval 1 3 v1 rfl rfl) h1
  clear hA0 hval0 hsz0 hsz
  refine (POps.boarderlaw16_ClassOthers.walk Pure.ClassOthers b0.f0 b0.f1 b0.f2 b0.f3 b0.f4 b0.f5 b0.f6 b0.f7 b0.f8 b0.f9 b0.f10 _ _ b0.f11 _ _ b0.f12 a1 W hw0.1 hw0.2.1 hw0.2.2.1 hw0.2.2.2.1 hw0.2.2.2.2.1 hw0.2.2.2.2.2.1 hw0.2.2.2.2.2.2.1 hw0.2.2.2.2.2.2.2.1 hw0.2.2.2.2.2.2.2.2.1 hw0.2.2.2.2.2.2.2.2.2.1 hw0.2.2.2.2.2.2.2.2.2.2.1 hC0_11 hl0_11 hw0.2.2.2.2.2.2.2.2.2.2.2.1.1 hw0.2.2.2.2.2.2.2.2.2.2.2.1.2 hC0_12 hl0_12 hw0.2.2.2.2.2.2.2.2.2.2.2.2.1 hw0.2.2.2.2.2.2.2.2.2.2.2.2.2 w1).mono fun e W' ⟨he, bel⟩ => ?_
  subst he
  exact ⟨_, rfl, _, _, _, [], _, [], hW', trodAll_mk1 (shut_bool Try.underlying4 _), (trodAll_cons_mk (Below.trod laidOut (by kernel_rfl) (of_decide_eq_true (by kernel_rfl)) k0 bel lt0) (trodAll_cons_mk (shut_int Try.underlying3 w1) trodAll_mk0)), rfl, bel.frame _, fun h => by cases h⟩
theorem over : Rows.classOthersRow.holds Try.pinned (OpenSpec.ofChange Rows.classOthersSpec) :=
  OpenClaim.holds_of_wide 18 Try.f18 rfl rfl rfl rfl rfl rfl rfl ⟨rfl, rfl, rfl, rfl, rfl⟩ rfl rfl rfl rfl rfl (by kernel_rfl) Try.func18 (by kernel_rfl)
    (of_decide_eq_true (by kernel_rfl)) (by unfold Func.isWrapper; first | (rw [if_pos (by decide +kernel)]; kernel_rfl) | (rw [if_neg (by decide +kernel)]; exact ⟨rfl, rfl⟩))
    (fun os started H enc _ => lifted os started H enc)
theorem proved : Rows.ClassOthersSaid := over
#print axioms proved
end Go.Proofs.Ytiklcnlehlpdaaa.classOthers
namespace Go.Proofs.Ytiklcnlehlpdaaa
/-- The row, under a short name, for the claim. -/
theorem classOthers_holds : Rows.ClassOthersSaid := classOthers.proved
end Go.Proofs.Ytiklcnlehlpdaaa
