import Derived.Test.YtfnckgpfooilmaaWWords
import Derived.Test.YtfnckgpfooilmaaWMore
import Derived.Test.YtfnckgpfooilmaaWGuard
import Derived.Lib.SlBytesConst
set_option linter.unusedVariables false
set_option linter.unusedSimpArgs false
namespace Go.Proofs.YtfnckgpfooilmaaW.PrintWords
open Go.RowKit
section
variable {P : Program} {ops : Array Oper} {rest : List Oper} {o o2 : Oper} {a : Act} {Q : Exit → Act → World → Prop}
/-- '[]byte("constant")': a literal's row and its conversion to its own type, as one event: what it gives is only read. -/
theorem lit_mark {W : World} {N N2 t e : Nat} {xs : List Int} {inner : List Value} (ht : P.underlying t = some (.slice e)) (he : P.underlying e = some (.int .u8)) (hgd : o.guard = none) (_hd : o.dst = some N) (_hd2 : o2.dst = some N2)
    (hw2 : ∀ v : Value, Region.wanted o2 (yielded ops (a.put o.dst v).tmps) = true) (hx : inner = nums .u8 xs) (hm : xs.length ≤ 9223372036854775807)
    (hrun : (execOp a.eval o).run P W = .ok (.value (.slice (some ⟨W.heap.size, 0, none⟩) xs.length xs.length)) (W.alloc (.cells inner.toArray e)))
    (hrun2 : ∀ v : Value, (execOp (a.put o.dst v).eval o2) = (do let x ← convert t t v; pure (.value x)))
    (h : ∀ A c w1, (Kd.int .u8).C w1 A xs.length xs → xs.length ≤ c → Below W.heap.size W w1 → wpList P ops Q rest ((a.put o.dst (.slice A xs.length c)).put o2.dst (.slice A xs.length c)) w1) :
    wpList P ops Q (o :: o2 :: rest) a W := by
  refine Kd.event_run hgd hrun (gate_guard (hw2 _) ?_)
  have hc := Lib.run_convert_bytes_const W t e inner.toArray xs.length xs.length ht he
  refine Kd.event_run rfl (v := .slice (some ⟨W.heap.size, 0, none⟩) xs.length xs.length) (w1 := W.alloc (.cells inner.toArray e (inner.toArray.size, inner.toArray.size + 1))) ?_ (h _ _ _ ?_ (Nat.le_refl _) (below_alloc (Below.refl _ _) _))
  · have h2 := hrun2 (.slice (some ⟨W.heap.size, 0, none⟩) xs.length xs.length)
    have e3 : (execOp (a.put o.dst (.slice (some ⟨W.heap.size, 0, none⟩) xs.length xs.length)).eval { o2 with guard := none }) = (do let x ← convert t t (.slice (some ⟨W.heap.size, 0, none⟩) xs.length xs.length); pure (.value x)) := h2
    rw [e3]
    simp [hc]
  · refine Kd.C_of_reads (d := 0) ⟨rfl, hm, fun _ => ⟨_, rfl, fun j hj => ?_⟩⟩
    rw [add_plain]
    have hh : (W.alloc (.cells inner.toArray e (inner.toArray.size, inner.toArray.size + 1))).heap[W.heap.size]? = some (.cells inner.toArray e (inner.toArray.size, inner.toArray.size + 1)) := by
      show (W.heap.push _)[W.heap.size]? = _
      simp
    have hcell : (W.alloc (.cells inner.toArray e (inner.toArray.size, inner.toArray.size + 1))).cell? ⟨W.heap.size, j, none⟩ = inner.toArray[j]? := by
      simp only [World.cell?, hh]
      rfl
    rw [hcell, hx]
    simp [nums, List.getElem?_eq_getElem hj, List.getD_eq_getElem?_getD]
end
end Go.Proofs.YtfnckgpfooilmaaW.PrintWords
namespace Go.Proofs.YtfnckgpfooilmaaW.PrintWords
theorem u8_w (n : Int) : IntKind.u8.wrap n = n % 256 := by
  simp only [IntKind.wrap, IntKind.signed, IntKind.bits]
  simp
theorem u32_w (n : Int) : IntKind.u32.wrap n = n % 4294967296 := by
  simp only [IntKind.wrap, IntKind.signed, IntKind.bits]
  simp
end Go.Proofs.YtfnckgpfooilmaaW.PrintWords
namespace Go.Proofs.YtfnckgpfooilmaaW.PrintWords
namespace Kd
section
variable {α : Type} {d : Kd α} {e : Nat} {W W' : World} {base n : Nat} {ok : Nat → Prop} {v : Value} {xs : List α}
theorem R_fresh_at (hq : W.drewN n = W') (h : d.R e W base ok v xs) : d.R e W' base ok v xs := hq ▸ R_drewN h n
theorem S_fresh_at (hq : W.drewN n = W') (h : d.S e W base ok v xs) : d.S e W' base ok v xs := hq ▸ S_drewN h n
theorem Q_fresh_at (hq : W.drewN n = W') (h : d.Q e W base ok v xs) : d.Q e W' base ok v xs := hq ▸ Q_drewN h n
theorem N_fresh_at (hq : W.drewN n = W') (h : d.N e W base ok v xs) : d.N e W' base ok v xs := hq ▸ N_drewN h n
theorem V_fresh_at (hq : W.drewN n = W') (h : d.V e W base ok v xs) : d.V e W' base ok v xs := hq ▸ V_drewN h n
theorem V_string {P : Program} {src dst e' : TypeId} {xs : List Int} (hs : P.underlying src = some (.slice e')) (he : P.underlying e' = some (.int .u8)) (hd : P.underlying dst = some .string)
    (h : (Kd.int .u8).V e W base ok v xs) : (convert src dst v).run P W = .ok (.string (strOfNums xs)) W := by
  obtain ⟨A, c, rfl, _, hf⟩ := h
  exact C_string hs he hd (F_now hf)
theorem Q_string {P : Program} {src dst e' : TypeId} {xs : List Int} (hs : P.underlying src = some (.slice e')) (he : P.underlying e' = some (.int .u8)) (hd : P.underlying dst = some .string)
    (h : (Kd.int .u8).Q e W base ok v xs) : (convert src dst v).run P W = .ok (.string (strOfNums xs)) W := by
  obtain ⟨A, c, rfl, _⟩ := Q_slice h
  exact C_string hs he hd (Q_reads' h).2.2
end
end Kd
end Go.Proofs.YtfnckgpfooilmaaW.PrintWords
namespace Go.Proofs.YtfnckgpfooilmaaW.PrintWords
section
variable {P : Program} {ops : Array Oper} {rest : List Oper} {o : Oper} {a : Act} {Q : Exit → Act → World → Prop}
/-- A region that draws, at a world that some orders have been drawn ahead of: a letter for that world. -/
theorem region_at {id : Nat} {ops : Array Oper} {a : Act} {Q : Exit → Act → World → Prop} {w W : World} (hd : ∃ m, w.drewN m = W)
    (h : ∀ W', (∃ m, w.drewN m = W') → (Code.region id ops true).wp P Q a W') : (Code.region id ops true).wp P Q a W := h W hd
/-- A cheap look at the world ahead of a dear step. -/
theorem gate_world {W : World} (h : wpList P ops Q (o :: rest) a W) : wpList P ops Q (o :: rest) a W := h
end
end Go.Proofs.YtfnckgpfooilmaaW.PrintWords
namespace Go.Proofs.YtfnckgpfooilmaaW.PrintWords
section
variable {P : Program}
/-- 'xs[lo:hi:hi]'. -/
theorem cut_mid3 (t e : TypeId) (kl kh km : IntKind) {i : TypeInfo} (ht : P.underlying t = some (.slice e)) (hi : P.info? e = some i) (size : Nat) (hsz : i.size = size) (A : Option Addr) (n c : Nat) (lo hi' : Int) (h0 : 0 ≤ lo) (h1 : lo ≤ hi') (h2 : hi' ≤ n) (hc : n ≤ c) :
    ∀ W : World, (Instr.slice t (.slice A n c) (some (.int kl lo)) (some (.int kh hi')) (some (.int km hi'))).run P W = .ok (.slice (if hi'.toNat = lo.toNat then A else A.map (·.add (lo.toNat * size))) (hi'.toNat - lo.toNat) (hi'.toNat - lo.toNat)) W := by
  intro W
  have hel : P.elem t = e := by simp [Program.elem, ht]
  have hu : P.underlying t = some (.slice (P.elem t)) := by rw [hel]; exact ht
  rw [run_slice_lhm W t A n c hu kl kh km lo hi' hi' h0 h1 (Int.le_refl _) (by omega), hel]
  simp [sizeOf, typeInfo, hi, hsz, sliced, Result.andThen]
end
end Go.Proofs.YtfnckgpfooilmaaW.PrintWords
namespace Go.Proofs.YtfnckgpfooilmaaW.PrintWords
section
variable {P : Program} {ops : Array Oper} {rest : List Oper} {o : Oper} {a : Act} {Q : Exit → Act → World → Prop}
/-- append(v, nil...): v as it is. -/
theorem append_nil {W : World} {n : Nat} (hgd : o.guard = none) (s x : Operand) (t e : TypeId)
    (ho : o.op = .call { callee := .builtin .append, args := #[s, x], argTypes := #[t, t] }) (ht : P.underlying t = some (.slice e)) (hinfo : ∃ i, P.info? e = some i)
    (v : Value) (hv : ∃ A c, v = .slice A n c ∧ n ≤ c) (hs : a.eval s = v) (hx : a.eval x = .slice none 0 0) (h : wpList P ops Q rest (a.put o.dst v) W) :
    wpList P ops Q (o :: rest) a W := by
  obtain ⟨A, c, rfl, hnc⟩ := hv
  obtain ⟨i, hi⟩ := hinfo
  have hr1 : (Builtin.append_ #[t, t] o.type #[.slice A n c, .slice none 0 0]).run P W = .ok (.slice A n c) W := by
    cases A with
    | none => simp [Builtin.append_, run_underlying ht, sizeOf, typeInfo, hi, Builtin.lenOf, Builtin.firstCells, hnc]
    | some g => simp [Builtin.append_, run_underlying ht, sizeOf, typeInfo, hi, Builtin.lenOf, Builtin.firstCells, hnc, storeCells]
  refine wpList_plain hgd fun K hK => ?_
  unfold Oper.wp execOp
  simp only [ho, resolve, invoke, builtin, Sem.run_bind, Sem.run_pure, Result.andThen_ok, List.map_toArray, List.map_cons, List.map_nil, hs, hx, hr1]
  exact hK _ _ h
end
end Go.Proofs.YtfnckgpfooilmaaW.PrintWords
namespace Go.Proofs.YtfnckgpfooilmaaW.PrintWords
open Go.RowKit
section
variable {P : Program} {ops : Array Oper} {rest : List Oper} {o o2 : Oper} {a : Act} {Q : Exit → Act → World → Prop}
/-- The same, told with the blocks it lies in: it may be handed on to what shares it. -/
theorem lit_markV {W : World} {N N2 t e : Nat} {xs : List Int} {inner : List Value} (ht : P.underlying t = some (.slice e)) (he : P.underlying e = some (.int .u8)) (hgd : o.guard = none) (_hd : o.dst = some N) (_hd2 : o2.dst = some N2)
    (hw2 : ∀ v : Value, Region.wanted o2 (yielded ops (a.put o.dst v).tmps) = true) (hx : inner = nums .u8 xs) (hm : xs.length ≤ 9223372036854775807)
    (hrun : (execOp a.eval o).run P W = .ok (.value (.slice (some ⟨W.heap.size, 0, none⟩) xs.length xs.length)) (W.alloc (.cells inner.toArray e)))
    (hrun2 : ∀ v : Value, (execOp (a.put o.dst v).eval o2) = (do let x ← convert t t v; pure (.value x)))
    (h : ∀ v w1, Kd.V (Kd.int .u8) e w1 W.heap.size (fun k => W.heap.size ≤ k) v xs → Below W.heap.size W w1 → wpList P ops Q rest ((a.put o.dst v).put o2.dst v) w1) :
    wpList P ops Q (o :: o2 :: rest) a W := by
  refine Kd.event_run hgd hrun (gate_guard (hw2 _) ?_)
  have hc := Lib.run_convert_bytes_const W t e inner.toArray xs.length xs.length ht he
  refine Kd.event_run rfl (v := .slice (some ⟨W.heap.size, 0, none⟩) xs.length xs.length) (w1 := W.alloc (.cells inner.toArray e (inner.toArray.size, inner.toArray.size + 1))) ?_ (h _ _ ?_ (below_alloc (Below.refl _ _) _))
  · have h2 := hrun2 (.slice (some ⟨W.heap.size, 0, none⟩) xs.length xs.length)
    have e3 : (execOp (a.put o.dst (.slice (some ⟨W.heap.size, 0, none⟩) xs.length xs.length)).eval { o2 with guard := none }) = (do let x ← convert t t (.slice (some ⟨W.heap.size, 0, none⟩) xs.length xs.length); pure (.value x)) := h2
    rw [e3]
    simp [hc]
  · have hh0 : (W.alloc (.cells inner.toArray e (inner.toArray.size, inner.toArray.size + 1))).heap[W.heap.size]? = some (.cells inner.toArray e (inner.toArray.size, inner.toArray.size + 1)) := by
      show (W.heap.push _)[W.heap.size]? = _
      simp
    have hs0 : W.heap.size < (W.alloc (.cells inner.toArray e (inner.toArray.size, inner.toArray.size + 1))).heap.size := by
      show W.heap.size < (W.heap.push _).size
      simp
    refine Kd.V_mk (Nat.le_refl _) (fun W' hW => ?_)
    have hh : W'.heap[W.heap.size]? = some (.cells inner.toArray e (inner.toArray.size, inner.toArray.size + 1)) := (hW _ (Nat.le_refl _) hs0).trans hh0
    refine Kd.C_of_reads (d := 0) ⟨rfl, hm, fun _ => ⟨_, rfl, fun j hj => ?_⟩⟩
    rw [add_plain]
    have hcell : W'.cell? ⟨W.heap.size, j, none⟩ = inner.toArray[j]? := by
      simp only [World.cell?, hh]
      rfl
    rw [hcell, hx]
    simp [nums, List.getElem?_eq_getElem hj, List.getD_eq_getElem?_getD]
end
end Go.Proofs.YtfnckgpfooilmaaW.PrintWords
