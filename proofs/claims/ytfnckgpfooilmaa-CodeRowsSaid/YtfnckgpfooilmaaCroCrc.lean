/- The published CRC-32: its register, and what the printed functions code.Sum, code.Frame, code.Open and the references come to. -/
import Derived.Test.YtfnckgpfooilmaaCroNums
set_option linter.unusedVariables false
set_option linter.unusedSimpArgs false
namespace Go.Proofs.Ytfnckgpfooilmaa.Plain
open Go.RowKit Go.Proofs.YtfnckgpfooilmaaW.PrintWords Go.Proofs.YtfnckgpfooilmaaW.PrintLast Go.Proofs.YtfnckgpfooilmaaW.PrintMore Go.Proofs.Ytfnckgpfooilmaa.PCro

/-- A register as a number. -/
def u (c : BitVec 32) : Int := (c.toNat : Int)
theorem u_range (c : BitVec 32) : 0 ≤ u c ∧ u c < 4294967296 := by have := c.isLt; unfold u; omega
theorem u_inj {a b : BitVec 32} (h : u a = u b) : a = b := by apply BitVec.eq_of_toNat_eq; unfold u at h; omega
theorem ofInt_u (c : BitVec 32) : BitVec.ofInt 32 (u c) = c := by unfold u; rw [BitVec.ofInt_natCast, BitVec.ofNat_toNat, BitVec.setWidth_eq]
theorem u_of {x : Int} (h0 : 0 ≤ x) (h1 : x < 4294967296) : u (BitVec.ofInt 32 x) = x := by
  unfold u
  rw [BitVec.toNat_ofInt]
  omega
theorem wrap_u32 {x : Int} (h0 : 0 ≤ x) (h1 : x < 4294967296) : IntKind.u32.wrap x = x := by
  simp only [IntKind.wrap, IntKind.signed, IntKind.bits]
  simp
  omega
theorem xor_u (a b : BitVec 32) : Go.bits .xor .u32 (u a) (u b) = u (a ^^^ b) := by
  have e : Go.bits .xor .u32 (u a) (u b) = IntKind.u32.wrap (((BitVec.ofInt 32 (u a) ^^^ BitVec.ofInt 32 (u b)).toNat : Nat) : Int) := rfl
  rw [e, ofInt_u, ofInt_u]
  exact wrap_u32 (u_range _).1 (u_range _).2
theorem and_u (a b : BitVec 32) : Go.bits .and .u32 (u a) (u b) = u (a &&& b) := by
  have e : Go.bits .and .u32 (u a) (u b) = IntKind.u32.wrap (((BitVec.ofInt 32 (u a) &&& BitVec.ofInt 32 (u b)).toNat : Nat) : Int) := rfl
  rw [e, ofInt_u, ofInt_u]
  exact wrap_u32 (u_range _).1 (u_range _).2
theorem half_u (c : BitVec 32) : u c / (2 : Int) = u (c >>> (1 : Nat)) := by
  unfold u
  rw [BitVec.toNat_ushiftRight, Nat.shiftRight_eq_div_pow]
  omega
theorem odd_u (c : BitVec 32) : u c % 2 = if c.getLsbD 0 then 1 else 0 := by
  unfold u
  rw [BitVec.getLsbD, Nat.testBit_zero]
  by_cases h : c.toNat % 2 = 1
  · simp [h]; omega
  · simp [h]; omega
/-- One bit of the register. -/
def stp (c : BitVec 32) : BitVec 32 := (c >>> 1) ^^^ (if c.getLsbD 0 then 0xedb88320#32 else 0#32)
def itr : Nat → BitVec 32 → BitVec 32
  | 0, c => c
  | n + 1, c => itr n (stp c)
def crcB (c : BitVec 32) (b : Int) : BitVec 32 := itr 8 (c ^^^ BitVec.ofInt 32 b)
def regL (l : List Int) : BitVec 32 := l.foldl crcB 0xffffffff#32
def crc (l : List Int) : Int := u (0xffffffff#32 ^^^ regL l)
theorem crc_range (l : List Int) : 0 ≤ crc l ∧ crc l < 4294967296 := u_range _
theorem regL_succ (l : List Int) (i : Nat) (h : i < l.length) : regL (l.take (i + 1)) = crcB (regL (l.take i)) (rd l i) := by
  rw [List.take_succ_eq_append_getElem h]
  unfold regL rd
  rw [List.foldl_append, Int.toNat_natCast, List.getD_eq_getElem?_getD, List.getElem?_eq_getElem h]
  rfl
theorem step_code (c : BitVec 32) : Go.bits .xor .u32 (u c / 2) ((3988292384 * (Go.bits .and .u32 (u c) 1)) % 4294967296) = u (stp c) := by
  have e1 : Go.bits .and .u32 (u c) 1 = if c.getLsbD 0 then 1 else 0 := by
    rw [show (1 : Int) = u 1#32 from rfl, and_u]
    unfold u
    rw [BitVec.toNat_and]
    show ((c.toNat &&& 1 : Nat) : Int) = _
    rw [Nat.and_one_is_mod, BitVec.getLsbD, Nat.testBit_zero]
    by_cases h : c.toNat % 2 = 1
    · rw [h]; rfl
    · rw [show c.toNat % 2 = 0 by omega]; rfl
  rw [e1, half_u]
  have e2 : (3988292384 * (if c.getLsbD 0 then 1 else 0 : Int)) % 4294967296 = u (if c.getLsbD 0 then 0xedb88320#32 else 0#32) := by
    cases c.getLsbD 0 <;> rfl
  rw [e2, xor_u]
  rfl
theorem mix_u (c : BitVec 32) {b : Int} (h : 0 ≤ b ∧ b < 256) : Go.bits .xor .u32 (u c) (b % 4294967296) = u (c ^^^ BitVec.ofInt 32 b) := by
  rw [show b % 4294967296 = u (BitVec.ofInt 32 b) by rw [u_of h.1 (by omega)]; omega, xor_u]

/-! ### code.Sum -/
theorem sum_inner (l : List Int) (i : Nat) (r : Int) : ∀ (d j : Nat) (c : BitVec 32), j + d = 8 → Ev (fun k => code_Sum.l0 k (u (itr d c)) l l.length (wrap64 (i + 1))) r → Ev (fun k => code_Sum.l1 k (u c) l l.length i j) r
  | 0, j, c, h, e => by
    obtain rfl : j = 8 := by omega
    refine Ev.step (fun k => by rw [code_Sum.l1]) ?_
    exact Ev.neg (by omega) e
  | d + 1, j, c, h, e => by
    have ej : wrap64 ((j : Int) + 1) = ((j + 1 : Nat) : Int) := by rw [w64 (by omega) (by omega)]; simp
    refine Ev.step (fun k => by rw [code_Sum.l1]) (Ev.pos (by omega) ?_)
    simp only [ej, step_code]
    exact sum_inner l i r d (j + 1) (stp c) (by omega) e
theorem sum_loop (l : List Int) (hb : Bytes l) (hl : l.length ≤ 140737488351232) : ∀ (d i : Nat), i + d = l.length →
    Ev (fun k => code_Sum.l0 k (u (regL (l.take i))) l l.length i) (crc l)
  | 0, i, h => by
    obtain rfl : i = l.length := by omega
    refine Ev.step (fun k => by rw [code_Sum.l0]) (Ev.neg (by omega) (Ev.const ?_))
    rw [show (4294967295 : Int) = u 0xffffffff#32 from rfl, xor_u, List.take_length]
    rfl
  | d + 1, i, h => by
    have ei : wrap64 ((i : Int) + 1) = ((i + 1 : Nat) : Int) := by rw [w64 (by omega) (by omega)]; simp
    refine Ev.step (fun k => by rw [code_Sum.l0]) (Ev.pos (by omega) (Ev.pos (by omega) (Ev.pos (by omega) ?_)))
    rw [mix_u _ (hb.rd i)]
    refine sum_inner l i _ 8 0 _ (by omega) ?_
    rw [ei]
    have e : itr 8 (regL (l.take i) ^^^ BitVec.ofInt 32 (rd l i)) = regL (l.take (i + 1)) := (regL_succ l i (by omega)).symm
    rw [e]
    exact sum_loop l hb hl d (i + 1) (by omega)
theorem sum_is (l : List Int) (hb : Bytes l) (hl : l.length ≤ 140737488351232) : Ev (fun k => code_Sum.f k l) (crc l) :=
  sum_loop l hb hl l.length 0 (by omega)

/-! ### the reference's -/
/-! ### frames -/
def frameL (l : List Int) : List Int := beL 2 l.length ++ beL 4 (crc l) ++ l
theorem frameL_bytes {l : List Int} (hb : Bytes l) : Bytes (frameL l) := ((beL_bytes 2 _).append (beL_bytes 4 _)).append hb
theorem frameL_length (l : List Int) : (frameL l).length = l.length + 6 := by simp [frameL, beL_length]; omega
theorem frame_is (l : List Int) (hb : Bytes l) (hl : l.length ≤ 140737488351232) : Ev (fun k => code_Frame.f k l) (if (l.length : Int) > 2000 then ([], 1) else (frameL l, 0)) := by
  unfold code_Frame.f
  by_cases h : (l.length : Int) > 2000
  · rw [if_pos h]; exact Ev.pos h (Ev.now _)
  · rw [if_neg h]
    have hc := crc_range l
    refine Ev.neg h (Ev.bind (put_ok l.length 2 (by omega) (by omega) (by omega) (by omega)) (Ev.bind (sum_is l hb hl) ?_))
    rw [w64 (by omega) (by omega)]
    refine Ev.bind (put_ok (crc l) 4 (by omega) (by omega) (by omega) (by omega)) ?_
    refine Ev.pos (by rw [beL_length, beL_length]; omega) (Ev.bind (Ev.now _) ?_)
    exact Ev.pos (by rw [List.length_append, beL_length, beL_length]; omega) (Ev.now _)
/-! ### code.Open -/
/-- What code.Open answers. -/
def openL (l : List Int) : List Int × Int × Int :=
  if l.length < 6 then ([], 0, 4) else if valL (l.take 2) > 2000 then ([], 0, 2) else if (l.length : Int) < 6 + valL (l.take 2) then ([], 0, 4)
  else if crc ((l.drop 6).take (valL (l.take 2)).toNat) = valL ((l.drop 2).take 4) then ((l.drop 6).take (valL (l.take 2)).toNat, 6 + valL (l.take 2), 0) else ([], 0, 6)
theorem drop_take_six (l : List Int) (n : Nat) : (l.take (6 + n)).drop 6 = (l.drop 6).take n := by
  rw [List.drop_take]; congr 1; omega
theorem open_is (l : List Int) (hb : Bytes l) (hl : l.length ≤ 140737488351232) : Ev (fun k => code_Open.f k l) (openL l) := by
  have hbad : ∀ x y, Ev (fun k => code_Open.j0 k l x y true) ([], 0, 4) := fun x y => Ev.step (fun k => by rw [code_Open.j0]) (Ev.pos rfl (Ev.now _))
  unfold code_Open.f
  refine Ev.bind (get_is l hb hl 0 2 (by omega)) (Ev.bind (get_is l hb hl 2 4 (by omega)) ?_)
  unfold openL
  by_cases h2 : l.length < 2
  · rw [if_pos (by omega)]
    have e : getL l 0 2 = (0, 4) := by unfold getL; rw [if_neg (by omega), if_pos (by omega)]
    rw [e]
    exact Ev.neg (by decide) (hbad _ _)
  have e1 : getL l 0 2 = (valL (l.take 2), 0) := by
    unfold getL; rw [if_neg (by omega), if_neg (by omega)]; rfl
  rw [e1]
  refine Ev.pos rfl ?_
  by_cases h6 : l.length < 6
  · rw [if_pos h6]
    have e : getL l 2 4 = (0, 4) := by unfold getL; rw [if_neg (by omega), if_pos (by omega)]
    rw [e]
    exact hbad _ _
  have e2 : getL l 2 4 = (valL ((l.drop 2).take 4), 0) := by
    unfold getL; rw [if_neg (by omega), if_neg (by omega)]; rfl
  rw [if_neg h6, e2]
  have hn := valL_range 2 (l.take 2) (by simp; omega) (hb.take 2)
  generalize hv : valL (l.take 2) = n at hn ⊢
  have hn' : 0 ≤ n ∧ n < 65536 := hn
  refine Ev.step (fun k => by rw [code_Open.j0]) (Ev.neg (by simp) ?_)
  by_cases h3 : n > 2000
  · rw [if_pos h3]; exact Ev.pos h3 (Ev.now _)
  rw [if_neg h3]
  refine Ev.neg h3 ?_
  have ew : wrap64 (6 + n) = 6 + n := w64 (by omega) (by omega)
  simp only [ew]
  by_cases h4 : (l.length : Int) < 6 + n
  · rw [if_pos h4]; exact Ev.pos h4 (Ev.now _)
  rw [if_neg h4]
  have et : (l.take (6 + n).toNat).drop 6 = (l.drop 6).take n.toNat := by
    rw [show (6 + n).toNat = 6 + n.toNat by omega, drop_take_six]
  refine Ev.neg h4 (Ev.bind (Ev.now _) (Ev.pos (by omega) (Ev.pos (by omega) ?_)))
  simp only [et, List.nil_append]
  refine Ev.pos (by simp; omega) (Ev.bind (Ev.now _) (Ev.bind (sum_is _ ((hb.drop 6).take _) (by simp; omega)) ?_))
  have hc := crc_range ((l.drop 6).take n.toNat)
  rw [w64 (x := crc ((l.drop 6).take n.toNat)) (by omega) (by omega)]
  by_cases h5 : crc ((l.drop 6).take n.toNat) = valL ((l.drop 2).take 4)
  · exact Ev.eq (Ev.pos h5 (Ev.now _)) (if_pos h5).symm
  · exact Ev.eq (Ev.neg h5 (Ev.now _)) (if_neg h5).symm
theorem frameL_take2 (l : List Int) (rest : List Int) : (frameL l ++ rest).take 2 = beL 2 l.length := by
  unfold frameL
  rw [List.append_assoc, List.append_assoc, List.take_left' (beL_length 2 _)]
theorem frameL_sum (l : List Int) (rest : List Int) : ((frameL l ++ rest).drop 2).take 4 = beL 4 (crc l) := by
  unfold frameL
  rw [List.append_assoc, List.append_assoc, List.drop_left' (beL_length 2 _), List.take_left' (beL_length 4 _)]
theorem frameL_rest (l : List Int) (rest : List Int) : (frameL l ++ rest).drop 6 = l ++ rest := by
  unfold frameL
  rw [List.append_assoc, List.drop_left' (by simp [beL_length])]
/-- A frame, whatever stands behind it, is opened as what it is of. -/
theorem openL_frame (l rest : List Int) (hl : l.length ≤ 2000) : openL (frameL l ++ rest) = (l, 6 + (l.length : Int), 0) := by
  have hc := crc_range l
  have e2 : valL (beL 2 (l.length : Int)) = l.length := valL_beL 2 _ (by omega) (by omega)
  have e4 : valL (beL 4 (crc l)) = crc l := valL_beL 4 _ (by omega) (by omega)
  unfold openL
  rw [frameL_take2, frameL_sum, frameL_rest, e2, e4, List.length_append, frameL_length, if_neg (by omega), if_neg (by omega), if_neg (by omega), Int.toNat_natCast, List.take_left, if_pos rfl]

/-! ### the document's examples -/
theorem frameL_nil : frameL [] = [0, 0, 0, 0, 0, 0] := by decide +kernel
theorem frame_nil : Ev (fun k => code_Frame.f k []) ([0, 0, 0, 0, 0, 0], 0) := by
  refine Ev.eq (frame_is [] Bytes.nil (by simp)) ?_
  rw [if_neg (by decide), frameL_nil]
theorem open_nil : Ev (fun k => code_Open.f k [0, 0, 0, 0, 0, 0]) ([], 6, 0) := by
  refine Ev.eq (open_is _ (by rw [← frameL_nil]; exact frameL_bytes Bytes.nil) (by simp)) ?_
  have := openL_frame [] [] (by simp)
  rw [frameL_nil] at this
  simpa using this
theorem knows_is : Ev (fun k => boarderlaw02_knows.f k) true := by
  unfold boarderlaw02_knows.f
  have hb9 : Bytes [49, 50, 51, 52, 53, 54, 55, 56, 57] := by intro x hx; simp at hx; omega
  have e0 : beL 4 258 = [0, 0, 1, 2] := by decide +kernel
  have e1 : crc [49, 50, 51, 52, 53, 54, 55, 56, 57] = 3421780262 := by decide +kernel
  refine Ev.bind (put_ok 258 4 (by omega) (by omega) (by omega) (by omega)) (Ev.bind frame_nil (Ev.bind open_nil ?_))
  rw [e0]
  refine Ev.pos (by rw [str_toList]; decide +kernel) (Ev.pos rfl (Ev.bind (sum_is _ hb9 (by simp)) ?_))
  rw [e1]
  exact Ev.pos rfl (Ev.pos (by rw [str_toList]; decide +kernel) (Ev.pos rfl (Ev.pos rfl (Ev.pos rfl (Ev.now _)))))
end Go.Proofs.Ytfnckgpfooilmaa.Plain
