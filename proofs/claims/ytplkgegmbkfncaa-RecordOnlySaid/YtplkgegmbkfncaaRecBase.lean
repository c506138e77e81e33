/- What record.Right, record.Write, record.Read and the references come to. -/
import Derived.Test.YtplkgegmbkfncaaNums
set_option linter.unusedVariables false
set_option linter.unusedSimpArgs false
namespace Go.Proofs.Ytplkgegmbkfncaa.Plain
open Go.RowKit Go.Proofs.YtplkgegmbkfncaaW.PrintWords Go.Proofs.YtplkgegmbkfncaaW.PrintLast Go.Proofs.YtplkgegmbkfncaaW.PrintMore Go.Proofs.Ytplkgegmbkfncaa.PRec

theorem Ev.opt {α : Type} {o : Option α} {r : α} (h : o = some r) : Ev (fun _ => o) r := h ▸ Ev.now r
/-! ### texts and bytes -/
theorem str_data (l : List Int) : (strOfNums l).data.toList = l.map fun n => UInt8.ofNat n.toNat := strOfNums_data l
theorem bytesOf_bytes (s : ByteArray) : Bytes (bytesOf s) := by
  intro x hx
  unfold bytesOf at hx
  obtain ⟨b, _, rfl⟩ := List.mem_map.1 hx
  have := b.toNat_lt
  omega
theorem bytesOf_str {l : List Int} (h : Bytes l) : bytesOf (strOfNums l) = l := by
  unfold bytesOf
  rw [str_data, List.map_map]
  have : ∀ x ∈ l, ((fun b : UInt8 => (b.toNat : Int)) ∘ fun n : Int => UInt8.ofNat n.toNat) x = id x := by
    intro x hx
    have := h x hx
    simp only [Function.comp, UInt8.toNat_ofNat', id]
    omega
  rw [List.map_congr_left this, List.map_id]
theorem str_bytesOf (s : ByteArray) : strOfNums (bytesOf s) = s := by
  apply ByteArray.ext
  apply Array.toList_inj.1
  rw [str_data]
  unfold bytesOf
  rw [List.map_map]
  have : ∀ x ∈ s.data.toList, ((fun n : Int => UInt8.ofNat n.toNat) ∘ fun b : UInt8 => (b.toNat : Int)) x = id x := by
    intro x _
    simp only [Function.comp, Int.toNat_natCast, id, UInt8.ofNat_toNat]
  rw [List.map_congr_left this, List.map_id]
theorem str_size (l : List Int) : (strOfNums l).size = l.length := by
  rw [← data_length, str_data, List.length_map]

/-! ### which leases are right -/
def krB (k : ByteArray) : Bool := decide ((3 : Int) ≤ k.size) && ((decide (bt k 0 = 105) && decide ((k.size : Int) ≤ 256)) || (decide (bt k 0 = 104) && decide ((k.size : Int) ≤ 18)))
theorem key_is (k : ByteArray) (h : k.size ≤ 9223372036854775807) : key_Right.f k = some (krB k) := by
  unfold key_Right.f krB
  by_cases h0 : (k.size : Int) = 0
  · rw [if_pos h0, h0]; rfl
  rw [if_neg h0, if_pos (by omega)]
  have ew : wrap64 ((k.size : Int) - 1) = k.size - 1 := w64 (by omega) (by omega)
  rw [ew]
  clear ew
  by_cases h1 : bt k 0 = 105
  · rw [if_pos h1, h1]
    by_cases h3 : (k.size : Int) - 1 ≥ 2
    · rw [if_pos h3]
      congr 1
      rw [Bool.eq_iff_iff]
      simp
      try omega
    · rw [if_neg h3]
      congr 1
      rw [Bool.eq_iff_iff]
      simp
      try omega
  rw [if_neg h1]
  by_cases h2 : bt k 0 = 104
  · rw [if_pos h2, h2]
    by_cases h3 : (k.size : Int) - 1 ≥ 2
    · rw [if_pos h3]
      congr 1
      rw [Bool.eq_iff_iff]
      simp
      try omega
    · rw [if_neg h3]
      congr 1
      rw [Bool.eq_iff_iff]
      simp
      try omega
  · rw [if_neg h2]
    simp [h1, h2]
theorem rkey_is (k : ByteArray) : boarderref07_Right.f k = some (krB k) := by
  unfold boarderref07_Right.f krB
  by_cases h0 : (k.size : Int) < 3
  · rw [if_pos h0]
    congr 1
    rw [Bool.eq_iff_iff]
    simp
    try omega
  rw [if_neg h0, if_pos (by omega)]
  by_cases h1 : bt k 0 = 105
  · rw [if_pos h1, h1]
    by_cases h3 : (k.size : Int) ≤ 256
    · rw [if_pos h3]
      congr 1
      rw [Bool.eq_iff_iff]
      simp
      try omega
    · rw [if_neg h3, if_neg (by decide)]
      congr 1
      rw [Bool.eq_iff_iff]
      simp
      try omega
  rw [if_neg h1]
  by_cases h2 : bt k 0 = 104
  · rw [if_pos h2, h2]
    congr 1
    rw [Bool.eq_iff_iff]
    simp
    try omega
  · rw [if_neg h2]
    simp [h1, h2]
def May9 (a s e : Int) (k : ByteArray) : Prop := (0 ≤ a ∧ a ≤ 4294967295) ∧ (1 ≤ s ∧ s ≤ 3) ∧ (0 ≤ e ∧ e ≤ 1125899906842624) ∧ krB k = true
instance (a s e : Int) (k : ByteArray) : Decidable (May9 a s e k) := by unfold May9; exact inferInstance
theorem right_is (a s e : Int) (k : ByteArray) (h : k.size ≤ 9223372036854775807) : record_Right.f a s e k = some (decide (May9 a s e k)) := by
  unfold record_Right.f addr_Right.f
  have no : ¬ May9 a s e k → some false = some (decide (May9 a s e k)) := fun h => by rw [decide_eq_false h]
  by_cases h1 : a ≥ 0
  · rw [if_pos h1]
    by_cases h2 : a ≤ 4294967295
    · rw [decide_eq_true h2, Option.bind_some, if_pos rfl]
      by_cases h3 : s ≥ 1
      · rw [if_pos h3]
        by_cases h4 : s ≤ 3
        · rw [if_pos h4]
          by_cases h5 : e ≥ 0
          · rw [if_pos h5]
            by_cases h6 : e ≤ 1125899906842624
            · rw [if_pos h6, key_is k h, Option.bind_some]
              cases hk : krB k with
              | true => rw [decide_eq_true (show May9 a s e k from ⟨⟨h1, h2⟩, ⟨h3, h4⟩, ⟨h5, h6⟩, hk⟩)]
              | false => exact no (fun hm => by rw [hm.2.2.2] at hk; cases hk)
            · rw [if_neg h6]; exact no (fun hm => h6 hm.2.2.1.2)
          · rw [if_neg h5]; exact no (fun hm => h5 hm.2.2.1.1)
        · rw [if_neg h4]; exact no (fun hm => h4 hm.2.1.2)
      · rw [if_neg h3]; exact no (fun hm => h3 hm.2.1.1)
    · rw [decide_eq_false h2, Option.bind_some, if_neg (by decide)]; exact no (fun hm => h2 hm.1.2)
  · rw [if_neg h1, Option.bind_some, if_neg (by decide)]; exact no (fun hm => h1 hm.1.1)
theorem rright_is (a s e : Int) (k : ByteArray) : boarderref09_Right.f a s e k = some (decide (May9 a s e k)) := by
  unfold boarderref09_Right.f boarderref01_Right.f
  have no : ¬ May9 a s e k → some false = some (decide (May9 a s e k)) := fun h => by rw [decide_eq_false h]
  have last : (0 ≤ a ∧ a ≤ 4294967295) → (1 ≤ s ∧ s ≤ 3) → krB k = true → (if e ≥ 0 then (some (decide (e ≤ 1125899906842624))) else (some false)) = some (decide (May9 a s e k)) := by
    intro h1 h2 h3
    by_cases h5 : e ≥ 0
    · rw [if_pos h5]
      by_cases h6 : e ≤ 1125899906842624
      · rw [decide_eq_true h6, decide_eq_true (show May9 a s e k from ⟨h1, h2, ⟨h5, h6⟩, h3⟩)]
      · rw [decide_eq_false h6]; exact no (fun hm => h6 hm.2.2.1.2)
    · rw [if_neg h5]; exact no (fun hm => h5 hm.2.2.1.1)
  by_cases h1 : a ≥ 0
  · rw [if_pos h1]
    by_cases h2 : a < 4294967296
    · rw [decide_eq_true h2, Option.bind_some, if_pos rfl, rkey_is k, Option.bind_some]
      by_cases hk : krB k = true
      · rw [if_pos hk]
        by_cases s1 : s = 1
        · rw [if_pos s1]; exact last ⟨h1, by omega⟩ (by omega) hk
        rw [if_neg s1]
        by_cases s2 : s = 2
        · rw [if_pos s2]; exact last ⟨h1, by omega⟩ (by omega) hk
        rw [if_neg s2]
        by_cases s3 : s = 3
        · rw [if_pos s3]; exact last ⟨h1, by omega⟩ (by omega) hk
        rw [if_neg s3]
        exact no (fun hm => by have := hm.2.1; omega)
      · rw [if_neg hk]; exact no (fun hm => hk hm.2.2.2)
    · rw [decide_eq_false h2, Option.bind_some, if_neg (by decide)]; exact no (fun hm => by have := hm.1; omega)
  · rw [if_neg h1, Option.bind_some, if_neg (by decide)]; exact no (fun hm => h1 hm.1.1)

/-! ### the bytes of a lease -/
def recL (a s e : Int) (k : ByteArray) : List Int := beL 4 a ++ beL 1 s ++ beL 7 e ++ bytesOf k
theorem recL_bytes (a s e : Int) (k : ByteArray) : Bytes (recL a s e k) := (((beL_bytes 4 _).append (beL_bytes 1 _)).append (beL_bytes 7 _)).append (bytesOf_bytes k)
theorem recL_length (a s e : Int) (k : ByteArray) : (recL a s e k).length = 12 + k.size := by simp [recL, beL_length, bytesOf_length]; omega
theorem write_is (a s e : Int) (k : ByteArray) (h : k.size ≤ 1000000) : Ev (fun n => record_Write.f n a s e k) (if May9 a s e k then (recL a s e k, 0) else ([], 1)) := by
  unfold record_Write.f
  refine Ev.bind (Ev.opt (right_is a s e k (by omega))) ?_
  by_cases hm : May9 a s e k
  · rw [if_pos hm, decide_eq_true hm]
    obtain ⟨⟨a0, a1⟩, ⟨s0, s1⟩, ⟨e0, e1⟩, _⟩ := hm
    refine Ev.pos rfl (Ev.bind (put_ok a 4 (by omega) (by omega) a0 (by have : (256 : Int) ^ 4 = 4294967296 := rfl; omega)) ?_)
    refine Ev.pos (by simp [beL_length]) (Ev.bind (Ev.now _) ?_)
    refine Ev.bind (put_ok s 1 (by omega) (by omega) (by omega) (by have : (256 : Int) ^ 1 = 256 := rfl; omega)) ?_
    refine Ev.pos (by simp [beL_length]) (Ev.bind (Ev.now _) ?_)
    refine Ev.bind (put_ok e 7 (by omega) (by omega) e0 (by have : (256 : Int) ^ 7 = 72057594037927936 := rfl; omega)) ?_
    refine Ev.pos (by simp [beL_length]) (Ev.bind (Ev.now _) ?_)
    refine Ev.pos (by simp [beL_length]; omega) (Ev.const ?_)
    simp [recL]
  · rw [if_neg hm, decide_eq_false hm]
    exact Ev.neg (by decide) (Ev.now _)
theorem bytesOf_take (k : ByteArray) (i : Nat) (h : i < k.size) : (bytesOf k).take (i + 1) = (bytesOf k).take i ++ [bt k i] := by
  rw [List.take_succ_eq_append_getElem (by rw [bytesOf_length]; exact h), ← rd_bytesOf]
  unfold rd
  rw [Int.toNat_natCast, List.getD_eq_getElem?_getD, List.getElem?_eq_getElem (by rw [bytesOf_length]; exact h)]
  rfl
theorem rwrite_loop (a s e : Int) (k : ByteArray) (h : k.size ≤ 1000000) (pre : List Int) (hp : pre.length ≤ 1000) : ∀ (d i : Nat), i + d = k.size →
    Ev (fun n => boarderref09_Write.l0 n (pre ++ (bytesOf k).take i) i a s e k) (pre ++ bytesOf k)
  | 0, i, hd => by
    obtain rfl : i = k.size := by omega
    refine Ev.step (fun n => by rw [boarderref09_Write.l0]) (Ev.neg (by omega) (Ev.const ?_))
    rw [List.take_of_length_le (by rw [bytesOf_length]; exact Nat.le_refl _)]
  | d + 1, i, hd => by
    have ei : wrap64 ((i : Int) + 1) = ((i + 1 : Nat) : Int) := by rw [w64 (by omega) (by omega)]; simp
    refine Ev.step (fun n => by rw [boarderref09_Write.l0]) (Ev.pos (by omega) (Ev.pos (by omega) (Ev.pos (by simp; omega) ?_)))
    simp only [ei]
    rw [List.append_assoc, ← bytesOf_take k i (by omega)]
    exact rwrite_loop a s e k h pre hp d (i + 1) (by omega)
theorem rwrite_is (a s e : Int) (k : ByteArray) (h : k.size ≤ 1000000) (hm : May9 a s e k) : Ev (fun n => boarderref09_Write.f n a s e k) (recL a s e k) := by
  obtain ⟨⟨a0, a1⟩, ⟨s0, s1⟩, ⟨e0, e1⟩, _⟩ := hm
  unfold boarderref09_Write.f
  refine Ev.bind (Ev.now _) (Ev.bind (rput_is 4 (by omega) a a0 (by omega)) ?_)
  refine Ev.pos (by simp [beL_length]) (Ev.bind (Ev.now _) ?_)
  refine Ev.pos (by simp [beL_length]) (Ev.bind (Ev.now _) ?_)
  refine Ev.bind (rput_is 7 (by omega) e e0 (by omega)) ?_
  refine Ev.pos (by simp [beL_length]) ?_
  have := rwrite_loop a s e k h ([] ++ beL 4 a ++ [s % 256] ++ beL 7 e) (by simp [beL_length]) k.size 0 (by omega)
  rw [List.take_zero, List.append_nil] at this
  refine Ev.eq this ?_
  simp [recL, beL]

/-! ### the lease of bytes -/
def readL (l : List Int) : Int × Int × Int × ByteArray × Int :=
  if l.length < 12 then (0, 0, 0, ⟨#[]⟩, 4)
  else if May9 (valL (l.take 4)) (valL ((l.drop 4).take 1)) (valL ((l.drop 5).take 7)) (strOfNums (l.drop 12)) then (valL (l.take 4), valL ((l.drop 4).take 1), valL ((l.drop 5).take 7), strOfNums (l.drop 12), 0)
  else (0, 0, 0, ⟨#[]⟩, 2)
theorem getL_in (l : List Int) (a n : Nat) (hn : 1 ≤ n) (hn7 : n ≤ 7) (h : a + n ≤ l.length) : getL l a n = (valL ((l.drop a).take n), 0) := by
  unfold getL
  rw [if_neg (by omega), if_neg (by omega), Int.toNat_natCast, Int.toNat_natCast]
theorem read_is (l : List Int) (hb : Bytes l) (hl : l.length ≤ 1000000) : Ev (fun n => record_Read.f n l) (readL l) := by
  unfold record_Read.f readL
  by_cases h : l.length < 12
  · rw [if_pos h]; exact Ev.pos (by omega) (Ev.now _)
  rw [if_neg h]
  have g1 := Ev.eq (get_is l hb (by omega) 0 4 (by omega)) (getL_in l 0 4 (by omega) (by omega) (by omega))
  have g2 := Ev.eq (get_is l hb (by omega) 4 1 (by omega)) (getL_in l 4 1 (by omega) (by omega) (by omega))
  have g3 := Ev.eq (get_is l hb (by omega) 5 7 (by omega)) (getL_in l 5 7 (by omega) (by omega) (by omega))
  rw [List.drop_zero] at g1
  refine Ev.neg (by omega) (Ev.bind g1 (Ev.bind g2 (Ev.bind g3 (Ev.pos (by omega) (Ev.bind (Ev.opt (right_is _ _ _ _ (by rw [str_size]; simp; omega))) ?_)))))
  by_cases hm : May9 (valL (l.take 4)) (valL ((l.drop 4).take 1)) (valL ((l.drop 5).take 7)) (strOfNums (l.drop 12))
  · rw [if_pos hm, decide_eq_true hm]; exact Ev.pos rfl (Ev.now _)
  · rw [if_neg hm, decide_eq_false hm]; exact Ev.neg (by decide) (Ev.now _)
theorem val_one (l : List Int) (i : Nat) (h : i < l.length) : valL ((l.drop i).take 1) = rd l i := by
  have e : (l.drop i).take 1 = [rd l i] := by
    rw [List.drop_eq_getElem_cons h]
    unfold rd
    rw [Int.toNat_natCast, List.getD_eq_getElem?_getD, List.getElem?_eq_getElem h]
    rfl
  rw [e]
  simp [valL]
theorem rread_is (l : List Int) (hb : Bytes l) (hl : l.length ≤ 1000000) : Ev (fun n => boarderref09_Read.f n l) (readL l) := by
  unfold boarderref09_Read.f readL
  by_cases h : l.length < 12
  · rw [if_pos h]; exact Ev.pos (by omega) (Ev.now _)
  rw [if_neg h]
  have hr := hb.rd 4
  have e4 : wrap64 (rd l 4) = valL ((l.drop 4).take 1) := by rw [val_one l 4 (by omega), w64 (by omega) (by omega)]; rfl
  have e5 : (l.take 12).drop 5 = (l.drop 5).take 7 := by rw [List.drop_take]
  refine Ev.neg (by omega) (Ev.pos (by omega) (Ev.bind (rvalue_is _ (hb.take 4) (by simp; omega)) ?_))
  rw [e4, e5]
  refine Ev.pos (by omega) (Ev.pos (by omega) (Ev.pos (by omega) (Ev.bind (rvalue_is _ ((hb.drop 5).take 7) (by simp; omega)) ?_)))
  refine Ev.bind (Ev.opt (rright_is _ _ _ _)) ?_
  by_cases hm : May9 (valL (l.take 4)) (valL ((l.drop 4).take 1)) (valL ((l.drop 5).take 7)) (strOfNums (l.drop 12))
  · rw [if_pos hm, decide_eq_true hm]; exact Ev.pos rfl (Ev.now _)
  · rw [if_neg hm, decide_eq_false hm]; exact Ev.neg (by decide) (Ev.now _)
theorem read_rec (a s e : Int) (k : ByteArray) (hm : May9 a s e k) : readL (recL a s e k) = (a, s, e, k, 0) := by
  obtain ⟨⟨a0, a1⟩, ⟨s0, s1⟩, ⟨e0, e1⟩, hk⟩ := hm
  have ea : valL (beL 4 a) = a := valL_beL 4 a a0 (by have : (256 : Int) ^ 4 = 4294967296 := rfl; omega)
  have es : valL (beL 1 s) = s := valL_beL 1 s (by omega) (by have : (256 : Int) ^ 1 = 256 := rfl; omega)
  have ee : valL (beL 7 e) = e := valL_beL 7 e e0 (by have : (256 : Int) ^ 7 = 72057594037927936 := rfl; omega)
  have d4 : (recL a s e k).take 4 = beL 4 a := by unfold recL; rw [List.append_assoc, List.append_assoc, List.take_left' (beL_length 4 a)]
  have t4 : (recL a s e k).drop 4 = beL 1 s ++ (beL 7 e ++ bytesOf k) := by unfold recL; rw [List.append_assoc, List.append_assoc, List.drop_left' (beL_length 4 a)]
  have d5 : ((recL a s e k).drop 4).take 1 = beL 1 s := by rw [t4, List.take_left' (beL_length 1 s)]
  have t5 : (recL a s e k).drop 5 = beL 7 e ++ bytesOf k := by
    have : (recL a s e k).drop 5 = ((recL a s e k).drop 4).drop 1 := by rw [List.drop_drop]
    rw [this, t4, List.drop_left' (beL_length 1 s)]
  have d7 : ((recL a s e k).drop 5).take 7 = beL 7 e := by rw [t5, List.take_left' (beL_length 7 e)]
  have t12 : (recL a s e k).drop 12 = bytesOf k := by
    have : (recL a s e k).drop 12 = ((recL a s e k).drop 5).drop 7 := by rw [List.drop_drop]
    rw [this, t5, List.drop_left' (beL_length 7 e)]
  unfold readL
  rw [if_neg (by rw [recL_length]; omega), d4, d5, d7, t12, str_bytesOf, ea, es, ee, if_pos ⟨⟨a0, a1⟩, ⟨s0, s1⟩, ⟨e0, e1⟩, hk⟩]
theorem rec_read (l : List Int) (hb : Bytes l) (h : 12 ≤ l.length) : recL (valL (l.take 4)) (valL ((l.drop 4).take 1)) (valL ((l.drop 5).take 7)) (strOfNums (l.drop 12)) = l := by
  unfold recL
  rw [beL_valL 4 _ (by simp; omega) (hb.take 4), beL_valL 1 _ (by simp; omega) ((hb.drop 4).take 1), beL_valL 7 _ (by simp; omega) ((hb.drop 5).take 7), bytesOf_str (hb.drop 12)]
  have e1 : l.take 4 ++ (l.drop 4).take 1 = l.take 5 := by rw [show (5 : Nat) = 4 + 1 from rfl, List.take_add]
  have e2 : l.take 5 ++ (l.drop 5).take 7 = l.take 12 := by rw [show (12 : Nat) = 5 + 7 from rfl, List.take_add]
  rw [e1, e2, List.take_append_drop]

/-! ### knows -/
def keyX : ByteArray := ⟨#[105, 48, 49]⟩
theorem knows_is : Ev (fun k => boarderlaw09_knows.f k) true := by
  have hm : May9 1 1 258 keyX := by decide +kernel
  have e0 : recL 1 1 258 keyX = [0, 0, 0, 1, 1, 0, 0, 0, 0, 0, 1, 2, 105, 48, 49] := by decide +kernel
  have w1 := Ev.eq (write_is 1 1 258 keyX (by decide)) (if_pos hm)
  have r1 := Ev.eq (read_is (recL 1 1 258 keyX) (recL_bytes _ _ _ _) (by rw [recL_length]; decide)) (read_rec 1 1 258 keyX hm)
  unfold boarderlaw09_knows.f
  refine Ev.bind w1 (Ev.bind r1 ?_)
  refine Ev.pos (by show (strOfNums (recL 1 1 258 keyX)).toList = _; rw [e0, str_toList]; decide +kernel) (Ev.pos rfl (Ev.pos ?_ (Ev.pos rfl (Ev.bind (Ev.opt (right_is 1 1 258 keyX (by decide))) (Ev.const (decide_eq_true hm))))))
  have : keyX.toList = [105, 48, 49] := by rw [ByteArray.toList_eq]; rfl
  show ((1 : Int) == 1 && ((1 : Int) == 1 && ((258 : Int) == 258 && (keyX.toList == [105, 48, 49])))) = true
  rw [this]
  rfl
theorem knows_then : Ev (fun k => (boarderlaw09_knows.f k).bind fun t => some t) true := Ev.bind knows_is (Ev.now _)
end Go.Proofs.Ytplkgegmbkfncaa.Plain
