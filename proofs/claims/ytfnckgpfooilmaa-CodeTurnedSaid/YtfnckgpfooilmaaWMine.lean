import Derived.Test.YtfnckgpfooilmaaWWords
import Derived.Test.YtfnckgpfooilmaaWMore
import Derived.Test.YtfnckgpfooilmaaWGuard
import Derived.Lib.SlBytesConst
set_option linter.unusedVariables false
set_option linter.unusedSimpArgs false
namespace Go.Proofs.YtfnckgpfooilmaaW.PrintWords
open Go.RowKit
section
variable {P : Program} {ops : Array Oper} {rest : List Oper} {o o2 : Oper} {a : Act} {Q : Exit → Act → World → Prop}
/-- '[]byte("constant")': a literal's row and its conversion to its own type, as one event: what it gives is only read. -/
theorem lit_mark {W : World} {N N2 t e : Nat} {xs : List Int} {inner : List Value} (ht : P.underlying t = some (.slice e)) (he : P.underlying e = some (.int .u8)) (hgd : o.guard = none) (_hd : o.dst = some N) (_hd2 : o2.dst = some N2)
    (hw2 : ∀ v : Value, Region.wanted o2 (yielded ops (a.put o.dst v).tmps) = true) (hx : inner = nums .u8 xs) (hm : xs.length ≤ 9223372036854775807)
    (hrun : (execOp a.eval o).run P W = .ok (.value (.slice (some ⟨W.heap.size, 0, none⟩) xs.length xs.length)) (W.alloc (.cells inner.toArray e)))
    (hrun2 : ∀ v : Value, (execOp (a.put o.dst v).eval o2) = (do let x ← convert t t v; pure (.value x)))
    (h : ∀ A c w1, (Kd.int .u8).C w1 A xs.length xs → xs.length ≤ c → Below W.heap.size W w1 → wpList P ops Q rest ((a.put o.dst (.slice A xs.length c)).put o2.dst (.slice A xs.length c)) w1) :
    wpList P ops Q (o :: o2 :: rest) a W := by
  refine Kd.event_run hgd hrun (gate_guard (hw2 _) ?_)
  have hc := Lib.run_convert_bytes_const W t e inner.toArray xs.length xs.length ht he
  refine Kd.event_run rfl (v := .slice (some ⟨W.heap.size, 0, none⟩) xs.length xs.length) (w1 := W.alloc (.cells inner.toArray e (inner.toArray.size, inner.toArray.size + 1))) ?_ (h _ _ _ ?_ (Nat.le_refl _) (below_alloc (Below.refl _ _) _))
  · have h2 := hrun2 (.slice (some ⟨W.heap.size, 0, none⟩) xs.length xs.length)
    have e3 : (execOp (a.put o.dst (.slice (some ⟨W.heap.size, 0, none⟩) xs.length xs.length)).eval { o2 with guard := none }) = (do let x ← convert t t (.slice (some ⟨W.heap.size, 0, none⟩) xs.length xs.length); pure (.value x)) := h2
    rw [e3]
    simp [hc]
  · refine Kd.C_of_reads (d := 0) ⟨rfl, hm, fun _ => ⟨_, rfl, fun j hj => ?_⟩⟩
    rw [add_plain]
    have hh : (W.alloc (.cells inner.toArray e (inner.toArray.size, inner.toArray.size + 1))).heap[W.heap.size]? = some (.cells inner.toArray e (inner.toArray.size, inner.toArray.size + 1)) := by
      show (W.heap.push _)[W.heap.size]? = _
      simp
    have hcell : (W.alloc (.cells inner.toArray e (inner.toArray.size, inner.toArray.size + 1))).cell? ⟨W.heap.size, j, none⟩ = inner.toArray[j]? := by
      simp only [World.cell?, hh]
      rfl
    rw [hcell, hx]
    simp [nums, List.getElem?_eq_getElem hj, List.getD_eq_getElem?_getD]
end
end Go.Proofs.YtfnckgpfooilmaaW.PrintWords
