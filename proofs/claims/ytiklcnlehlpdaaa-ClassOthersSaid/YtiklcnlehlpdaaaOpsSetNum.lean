/- Options: a number that was set is found. -/
import Derived.Test.YtiklcnlehlpdaaaOpsKeep
set_option linter.unusedVariables false
set_option linter.unusedSimpArgs false
namespace Go.Proofs.Ytiklcnlehlpdaaa.Plain
open Go.RowKit Go.Proofs.YtiklcnlehlpdaaaW.PrintWords Go.Proofs.YtiklcnlehlpdaaaW.PrintLast Go.Proofs.YtiklcnlehlpdaaaW.PrintMore Go.Proofs.Ytiklcnlehlpdaaa.POps
theorem may4 {v : Int} (h : May v 4) : 0 ≤ v ∧ v < 4294967296 := by
  obtain ⟨_, _, h3, h4⟩ := h
  have : (256 : Int) ^ (4 : Int).toNat = 4294967296 := rfl
  omega
theorem may4' {v : Int} (h : 0 ≤ v) (h2 : v < 4294967296) : May v 4 := by
  refine ⟨by decide, by decide, h, ?_⟩
  have : (256 : Int) ^ (4 : Int).toNat = 4294967296 := rfl
  omega
theorem may1 {v : Int} (h : May v 1) : 0 ≤ v ∧ v < 256 := by
  obtain ⟨_, _, h3, h4⟩ := h
  have : (256 : Int) ^ (1 : Int).toNat = 256 := rfl
  omega
theorem may1' {v : Int} (h : 0 ≤ v) (h2 : v < 256) : May v 1 := by
  refine ⟨by decide, by decide, h, ?_⟩
  have : (256 : Int) ^ (1 : Int).toNat = 256 := rfl
  omega
theorem num_keep (l : List S70) (c v : Int) (h : May v 4) : num c (keepL l c (beL (4 : Int).toNat v)) = (v, true) := by
  have h4 := may4 h
  unfold num
  rw [find_keep]
  rw [if_pos (show (beL (4 : Int).toNat v).length = 4 from beL_length _ _)]
  show (valL (beL 4 v), true) = _
  rw [valL_beL 4 v h4.1 (by have : (256 : Int) ^ 4 = 4294967296 := rfl; omega)]
theorem num_keep_ne {c d : Int} (hd : d ≠ c) (l : List S70) (b : List Int) : num d (keepL l c b) = num d l := by
  unfold num
  rw [find_keep_ne hd]
theorem kind_keep (l : List S70) (v : Int) (h : May v 1) : kindL (keepL l 53 (beL (1 : Int).toNat v)) = if 1 ≤ v ∧ v ≤ 8 then v else 0 := by
  have h1 := may1 h
  unfold kindL
  rw [find_keep]
  have e : beL (1 : Int).toNat v = [v] := by
    show beL 1 v = [v]
    simp [beL]
    omega
  have er : rd [v] 0 = v := rfl
  show (if (beL (1 : Int).toNat v).length = 1 ∧ 1 ≤ rd (beL (1 : Int).toNat v) 0 ∧ rd (beL (1 : Int).toNat v) 0 ≤ 8 then rd (beL (1 : Int).toNat v) 0 else 0) = _
  rw [e, er]
  by_cases hv : 1 ≤ v ∧ v ≤ 8
  · rw [if_pos ⟨rfl, hv⟩, if_pos hv]
  · rw [if_neg (fun hh => hv hh.2), if_neg hv]
theorem kind_keep_ne {c : Int} (hd : 53 ≠ c) (l : List S70) (b : List Int) : kindL (keepL l c b) = kindL l := by
  unfold kindL
  rw [find_keep_ne hd]
end Go.Proofs.Ytiklcnlehlpdaaa.Plain
