/- A frame of which bits within 32, one behind the other, are turned in its bytes is not opened: any bytes, any such bits. -/
import Derived.Test.YtfnckgpfooilmaaCrc
set_option linter.unusedVariables false
set_option linter.unusedSimpArgs false
namespace Go.Proofs.Ytfnckgpfooilmaa.Plain
open Go.RowKit Go.Proofs.YtfnckgpfooilmaaW.PrintWords Go.Proofs.YtfnckgpfooilmaaW.PrintLast Go.Proofs.YtfnckgpfooilmaaW.PrintMore Go.Proofs.Ytfnckgpfooilmaa.PCode

theorem xor4 (a b c d : BitVec 32) : (a ^^^ b) ^^^ (c ^^^ d) = (a ^^^ c) ^^^ (b ^^^ d) := by
  rw [BitVec.xor_assoc, ← BitVec.xor_assoc b c d, BitVec.xor_comm b c, BitVec.xor_assoc c b d, ← BitVec.xor_assoc]
theorem stp_xor (x y : BitVec 32) : stp (x ^^^ y) = stp x ^^^ stp y := by
  unfold stp
  rw [BitVec.ushiftRight_xor_distrib, BitVec.getLsbD_xor, xor4]
  congr 1
  cases x.getLsbD 0 <;> cases y.getLsbD 0 <;> rfl
theorem itr_xor : ∀ (n : Nat) (x y : BitVec 32), itr n (x ^^^ y) = itr n x ^^^ itr n y
  | 0, _, _ => rfl
  | n + 1, x, y => by rw [itr, stp_xor, itr_xor n]; rfl
theorem itr_add : ∀ (a b : Nat) (x : BitVec 32), itr (a + b) x = itr b (itr a x)
  | 0, b, x => by rw [Nat.zero_add]; rfl
  | a + 1, b, x => by rw [show a + 1 + b = (a + b) + 1 by omega, itr, itr, itr_add a b]
theorem itr_one (i : Nat) (h : i < 32) : itr i (1#32 <<< i) = 1#32 := by
  have : ∀ i : Fin 32, itr i.val (1#32 <<< i.val) = 1#32 := by decide +kernel
  exact this ⟨i, h⟩
theorem stp_zero {x : BitVec 32} (h : stp x = 0#32) : x = 0#32 := by
  have hx := x.isLt
  have e1 : (x >>> (1 : Nat)).toNat = x.toNat / 2 := by rw [BitVec.toNat_ushiftRight, Nat.shiftRight_eq_div_pow]
  unfold stp at h
  by_cases h0 : x.getLsbD 0 = true
  · rw [if_pos h0] at h
    have h2 : x >>> (1 : Nat) = 0xedb88320#32 := BitVec.xor_eq_zero_iff.1 h
    rw [h2] at e1
    have : (0xedb88320#32).toNat = 3988292384 := rfl
    omega
  · rw [if_neg h0, BitVec.xor_zero] at h
    rw [h] at e1
    have h3 : x.toNat % 2 = 0 := by
      rw [BitVec.getLsbD, Nat.testBit_zero] at h0
      simp at h0
      exact h0
    apply BitVec.eq_of_toNat_eq
    show x.toNat = 0
    have e2 : (0#32).toNat = 0 := rfl
    omega
theorem itr_zero : ∀ (n : Nat) (x : BitVec 32), itr n x = 0#32 → x = 0#32
  | 0, _, h => h
  | n + 1, x, h => stp_zero (itr_zero n _ h)
theorem itr_nought : ∀ (n : Nat), itr n 0#32 = 0#32
  | 0 => rfl
  | n + 1 => by rw [itr, show stp 0#32 = 0#32 by decide +kernel, itr_nought n]

/-! ### one bit turned -/
theorem fold_xor (l : List Int) : ∀ (x y : BitVec 32), l.foldl crcB (x ^^^ y) = l.foldl crcB x ^^^ itr (8 * l.length) y := by
  induction l with
  | nil => intro x y; rfl
  | cons b l ih =>
    intro x y
    rw [List.foldl_cons, List.foldl_cons]
    have e : crcB (x ^^^ y) b = crcB x b ^^^ itr 8 y := by
      unfold crcB
      rw [BitVec.xor_assoc, BitVec.xor_comm y, ← BitVec.xor_assoc, itr_xor]
    rw [e, ih, List.length_cons, show 8 * (l.length + 1) = 8 + 8 * l.length by omega, itr_add]
/-- A byte with one bit turned. -/
def turnB (b : Int) (j : Nat) : Int := Go.bits .xor .u8 b (2 ^ j)
theorem ofInt_xor (m n : Nat) : BitVec.ofInt 32 (((m ^^^ n : Nat) : Int)) = BitVec.ofInt 32 (m : Int) ^^^ BitVec.ofInt 32 (n : Int) := by
  rw [BitVec.ofInt_natCast, BitVec.ofInt_natCast, BitVec.ofInt_natCast]
  apply BitVec.eq_of_toNat_eq
  rw [BitVec.toNat_xor, BitVec.toNat_ofNat, BitVec.toNat_ofNat, BitVec.toNat_ofNat, Nat.xor_mod_two_pow]
theorem turnB_is {b : Int} (hb : 0 ≤ b ∧ b < 256) {j : Nat} (hj : j < 8) : (0 ≤ turnB b j ∧ turnB b j < 256) ∧ BitVec.ofInt 32 (turnB b j) = BitVec.ofInt 32 b ^^^ (1#32 <<< j) := by
  obtain ⟨n, rfl⟩ := Int.eq_ofNat_of_zero_le hb.1
  have hn : n < 256 := by omega
  obtain ⟨p, hp, hp1, hp2⟩ : ∃ p : Nat, (2 : Int) ^ j = (p : Int) ∧ p < 256 ∧ BitVec.ofInt 32 (p : Int) = 1#32 <<< j := by
    have : ∀ j : Fin 8, 2 ^ j.val < 256 ∧ BitVec.ofInt 32 ((2 ^ j.val : Nat) : Int) = 1#32 <<< j.val := by decide +kernel
    exact ⟨2 ^ j, by simp, (this ⟨j, hj⟩).1, (this ⟨j, hj⟩).2⟩
  have e : turnB (n : Int) j = ((n ^^^ p : Nat) : Int) := by
    unfold turnB
    rw [hp]
    have e1 : Go.bits .xor .u8 (n : Int) (p : Int) = IntKind.u8.wrap (((BitVec.ofInt 8 (n : Int) ^^^ BitVec.ofInt 8 (p : Int)).toNat : Nat) : Int) := rfl
    rw [e1, BitVec.ofInt_natCast, BitVec.ofInt_natCast, BitVec.toNat_xor, BitVec.toNat_ofNat, BitVec.toNat_ofNat, Nat.mod_eq_of_lt (by omega : n < 2 ^ 8), Nat.mod_eq_of_lt (by omega : p < 2 ^ 8)]
    have hx : n ^^^ p < 2 ^ 8 := Nat.xor_lt_two_pow (by omega) (by omega)
    simp only [IntKind.wrap, IntKind.signed, IntKind.bits]
    simp
    omega
  have hx : n ^^^ p < 2 ^ 8 := Nat.xor_lt_two_pow (by omega) (by omega)
  rw [e]
  refine ⟨⟨by omega, by omega⟩, ?_⟩
  rw [ofInt_xor, hp2]
theorem fold_turn (l : List Int) (hb : Bytes l) : ∀ (c : BitVec 32) (q j : Nat), q < l.length → j < 8 →
    (l.set q (turnB (l.getD q 0) j)).foldl crcB c = l.foldl crcB c ^^^ itr (8 * l.length - (8 * q + j)) 1#32 := by
  induction l with
  | nil => intro c q j h; cases h
  | cons b l ih =>
    intro c q j hq hj
    cases q with
    | zero =>
      obtain ⟨_, h2⟩ := turnB_is (hb b List.mem_cons_self) hj
      rw [List.set_cons_zero, List.foldl_cons, List.foldl_cons]
      have e : crcB c (turnB ((b :: l).getD 0 0) j) = crcB c b ^^^ itr (8 - j) 1#32 := by
        show crcB c (turnB b j) = _
        unfold crcB
        rw [h2, ← BitVec.xor_assoc, itr_xor]
        congr 1
        rw [show (8 : Nat) = j + (8 - j) by omega, itr_add, itr_one j (by omega)]
        congr 1
        omega
      rw [e, fold_xor, ← itr_add]
      congr 2
      rw [List.length_cons]
      omega
    | succ q =>
      rw [List.set_cons_succ, List.foldl_cons, List.foldl_cons]
      have := ih (fun x hx => hb x (List.mem_cons_of_mem _ hx)) (crcB c b) q j (by simpa using hq) hj
      rw [show (b :: l).getD (q + 1) 0 = l.getD q 0 from rfl, this]
      congr 2
      rw [List.length_cons]
      omega

/-! ### the loop -/
/-- the bits that have been turned so far -/
def msk (t : Int) : Nat → BitVec 32
  | 0 => 0#32
  | i + 1 => if t / 2 ^ i % 2 = 1 then msk t i ^^^ (1#32 <<< i) else msk t i
theorem msk_above (t : Int) : ∀ (i j : Nat), i ≤ j → (msk t i).getLsbD j = false
  | 0, j, _ => by simp [msk]
  | i + 1, j, h => by
    have ih := msk_above t i j (by omega)
    rw [msk]
    split
    · rw [BitVec.getLsbD_xor, ih, BitVec.getLsbD_shiftLeft]
      simp
      omega
    · exact ih
theorem msk_set (t : Int) (i : Nat) (hi : i < 32) : msk t i ^^^ (1#32 <<< i) ≠ 0#32 := by
  intro h
  have e := congrArg (fun x => BitVec.getLsbD x i) h
  simp only [BitVec.getLsbD_xor, msk_above t i i (Nat.le_refl _), BitVec.getLsbD_shiftLeft] at e
  simp [hi] at e
/-- the six bytes ahead of a frame's -/
def hdr (l : List Int) : List Int := beL 2 l.length ++ beL 4 (crc l)
theorem hdr_length (l : List Int) : (hdr l).length = 6 := by simp [hdr, beL_length]
theorem hdr_bytes (l : List Int) : Bytes (hdr l) := (beL_bytes 2 _).append (beL_bytes 4 _)
theorem hdr_frame (l : List Int) : frameL l = hdr l ++ l := rfl
/-- what stands when the loop is at i -/
structure At (l : List Int) (first : Nat) (t : Int) (f : List Int) (on : Bool) (i : Nat) : Prop where
  le : i ≤ 32
  body : ∃ l', f = hdr l ++ l' ∧ l'.length = l.length ∧ Bytes l' ∧ regL l' = regL l ^^^ itr (8 * l.length - first) (msk t i)
  on : on = !(msk t i == 0#32)
theorem end_is (l : List Int) (hl : l.length ≤ 2000) (hb : Bytes l) (first : Nat) (t : Int) (f : List Int) (on : Bool) (i : Nat) (h : At l first t f on i) (first' x2 : Int) :
    Ev (fun k => boarderlaw02_CodeTurned.j3 k l x2 f first' on i false) true := by
  obtain ⟨l', rfl, hl', hb', hr⟩ := h.body
  have hc := crc_range l
  have hbf : Bytes (hdr l ++ l') := (hdr_bytes l).append hb'
  have hlf : (hdr l ++ l').length = l.length + 6 := by simp [hdr_length]; omega
  have hk : Ev (fun k => (boarderlaw02_knows.f k).bind fun t => some t) true := Ev.bind knows_is (Ev.now _)
  have ho : openL (hdr l ++ l') = if crc l' = crc l then (l', 6 + (l.length : Int), 0) else ([], 0, 6) := by
    have e2 : valL (beL 2 (l.length : Int)) = l.length := valL_beL 2 _ (by omega) (by omega)
    have e4 : valL (beL 4 (crc l)) = crc l := valL_beL 4 _ (by omega) (by omega)
    have g1 : (hdr l ++ l').take 2 = beL 2 l.length := by unfold hdr; rw [List.append_assoc, List.take_left' (beL_length 2 _)]
    have g2 : ((hdr l ++ l').drop 2).take 4 = beL 4 (crc l) := by unfold hdr; rw [List.append_assoc, List.drop_left' (beL_length 2 _), List.take_left' (beL_length 4 _)]
    have g3 : (hdr l ++ l').drop 6 = l' := by rw [List.drop_left' (hdr_length l)]
    unfold openL
    rw [g1, g2, g3, e2, e4, hlf, if_neg (by omega), if_neg (by omega), if_neg (by omega), Int.toNat_natCast, ← hl', List.take_length]
  have hcrc : crc l' = crc l ↔ msk t i = 0#32 := by
    unfold crc
    constructor
    · intro e
      have e2 := u_inj e
      rw [hr, ← BitVec.xor_assoc] at e2
      have e3 : itr (8 * l.length - first) (msk t i) = 0#32 := by
        have := congrArg (fun x => (0xffffffff#32 ^^^ regL l) ^^^ x) e2
        simpa [← BitVec.xor_assoc] using this
      exact itr_zero _ _ e3
    · intro e
      rw [hr, e, itr_nought, BitVec.xor_zero]
  refine Ev.step (fun k => by rw [boarderlaw02_CodeTurned.j3]) (Ev.neg (by simp) (Ev.bind (open_is _ hbf (by omega)) ?_))
  rw [ho, h.on]
  by_cases hm : msk t i = 0#32
  · rw [if_pos (hcrc.2 hm), hm]
    exact Ev.pos (by rfl) (Ev.pos (by rfl) hk)
  · rw [if_neg (fun e => hm (hcrc.1 e)), beq_eq_false_iff_ne.2 hm]
    exact Ev.pos (by rfl) (Ev.pos (by rfl) hk)
theorem loop_is (l : List Int) (hl : l.length ≤ 2000) (hb : Bytes l) (first : Nat) (hf : first < 8 * l.length) (t : Int) (ht : 0 ≤ t ∧ t < 4294967296) : ∀ (d i : Nat) (f : List Int) (on : Bool), i + d = 32 → At l first t f on i →
    Ev (fun k => boarderlaw02_CodeTurned.l0 k l t f first on i) true
  | 0, i, f, on, hd, h => by
    obtain rfl : i = 32 := by omega
    refine Ev.step (fun k => by rw [boarderlaw02_CodeTurned.l0]) (Ev.neg (by omega) ?_)
    exact end_is l hl hb first t f on 32 h first t
  | d + 1, i, f, on, hd, h => by
    have ew : wrap64 ((first : Int) + i) = ((first + i : Nat) : Int) := by rw [w64 (by omega) (by omega)]; simp
    have el : wrap64 (8 * (l.length : Int)) = ((8 * l.length : Nat) : Int) := by rw [w64 (by omega) (by omega)]; simp
    have ei : wrap64 ((i : Int) + 1) = ((i + 1 : Nat) : Int) := by rw [w64 (by omega) (by omega)]; simp
    refine Ev.step (fun k => by rw [boarderlaw02_CodeTurned.l0]) (Ev.pos (by omega) ?_)
    simp only [ew, el]
    by_cases hin : first + i < 8 * l.length
    · rw [decide_eq_true (by omega)]
      have es : Int.tmod (shr .u32 t i) 2 = t / 2 ^ i % 2 := by
        have e1 : shr .u32 t (i : Int) = t / 2 ^ i := by
          unfold shr
          rw [Int.toNat_natCast, Nat.min_eq_left (show i ≤ IntKind.u32.bits from (show i ≤ 32 by omega))]
        have h0 : 0 ≤ t / 2 ^ i := Int.ediv_nonneg ht.1 (Int.le_of_lt (Int.pow_pos (by decide)))
        rw [e1, Int.tmod_eq_emod_of_nonneg h0]
      refine Ev.step (fun k => by rw [boarderlaw02_CodeTurned.j3]) (Ev.pos rfl (Ev.pos (by omega) ?_))
      simp only [es, ew, ei]
      clear es
      obtain ⟨l', rfl, hl', hb', hr⟩ := h.body
      by_cases hbit : t / 2 ^ i % 2 = 1
      · refine Ev.pos hbit ?_
        have HBIT := Aside0.mk hbit
        clear hbit
        have ed : Int.tdiv ((first + i : Nat) : Int) 8 = (((first + i) / 8 : Nat) : Int) := by rw [Int.tdiv_eq_ediv_of_nonneg (by omega)]; simp
        have em : Int.tmod ((first + i : Nat) : Int) 8 = (((first + i) % 8 : Nat) : Int) := by rw [Int.tmod_eq_emod_of_nonneg (by omega)]; simp
        have e6 : wrap64 (6 + wrap64 (((first + i) / 8 : Nat) : Int)) = ((6 + (first + i) / 8 : Nat) : Int) := by
          rw [w64 (x := (((first + i) / 8 : Nat) : Int)) (by omega) (by omega), w64 (by omega) (by omega)]; simp
        simp only [ed, em, e6]
        clear ed em e6 ew el ei
        refine Ev.pos (by omega) (Ev.pos (by rw [List.length_append, hdr_length]; omega) (Ev.pos (by omega) ?_))
        generalize hq : (first + i) / 8 = q
        generalize hj : (first + i) % 8 = j
        have hj8 : j < 8 := by omega
        have hql : q < l'.length := by omega
        have hsh : shl .u8 1 (j : Int) = 2 ^ j := by
          have : ∀ j : Fin 8, shl .u8 1 (j.val : Int) = 2 ^ j.val := by decide +kernel
          exact this ⟨j, hj8⟩
        have h6 := hdr_length l
        have hrd : rd (hdr l ++ l') ((6 + q : Nat) : Int) = l'.getD q 0 := by
          unfold rd
          rw [Int.toNat_natCast, List.getD_eq_getElem?_getD, List.getD_eq_getElem?_getD, List.getElem?_append_right (by omega), h6, show 6 + q - 6 = q by omega]
        have hset : (hdr l ++ l').set (6 + q) (turnB (l'.getD q 0) j) = hdr l ++ l'.set q (turnB (l'.getD q 0) j) := by
          rw [List.set_append_right _ _ (by omega), h6, show 6 + q - 6 = q by omega]
        rw [hsh, hrd, Int.toNat_natCast]
        have hold : Go.bits .xor .u8 (l'.getD q 0) (2 ^ j) = turnB (l'.getD q 0) j := rfl
        rw [hold, hset]
        refine loop_is l hl hb first hf t ht d (i + 1) _ true (by omega) ⟨by omega, ⟨_, rfl, by rw [List.length_set]; exact hl', ?_, ?_⟩, ?_⟩
        · intro x hx
          rcases List.mem_or_eq_of_mem_set hx with hx | rfl
          · exact hb' x hx
          · have hg : 0 ≤ l'.getD q 0 ∧ l'.getD q 0 < 256 := by
              rw [List.getD_eq_getElem?_getD, List.getElem?_eq_getElem hql]
              exact hb' _ (List.getElem_mem hql)
            exact (turnB_is hg hj8).1
        · have e := fold_turn l' hb' 0xffffffff#32 q j hql hj8
          have e1 : regL (l'.set q (turnB (l'.getD q 0) j)) = regL l' ^^^ itr (8 * l.length - first) (1#32 <<< i) := by
            unfold regL
            rw [e]
            congr 1
            rw [show 8 * l.length - first = i + (8 * l.length - (first + i)) by omega, itr_add, itr_one i (by omega)]
            congr 1
            omega
          rw [e1, hr, BitVec.xor_assoc, ← itr_xor, msk, if_pos HBIT.out]
        · rw [msk, if_pos HBIT.out, beq_eq_false_iff_ne.2 (msk_set t i (by omega))]
          rfl
      · refine Ev.neg hbit ?_
        refine loop_is l hl hb first hf t ht d (i + 1) _ on (by omega) ⟨by omega, ⟨l', rfl, hl', hb', ?_⟩, ?_⟩
        · rw [msk, if_neg hbit]; exact hr
        · rw [msk, if_neg hbit]; exact h.on
    · rw [decide_eq_false (by omega)]
      exact end_is l hl hb first t f on i h first t
end Go.Proofs.Ytfnckgpfooilmaa.Plain
namespace Go.Proofs.Ytfnckgpfooilmaa.Pure
open Go.RowKit Go.Proofs.Ytfnckgpfooilmaa.PCode Go.Proofs.YtfnckgpfooilmaaW.PrintWords Go.Proofs.YtfnckgpfooilmaaW.PrintLast Go.Proofs.Ytfnckgpfooilmaa.Plain
theorem CodeTurned : boarderlaw02_CodeTurned.Pure := by
  intro l a t _ hl hw ha0 ht0
  have hb := bytes_of_wf hw
  have ha := i64_of_wf ha0
  have ht := u32_of_wf ht0
  have hk : Ev (fun k => (boarderlaw02_knows.f k).bind fun t => some t) true := Ev.bind knows_is (Ev.now _)
  have hgreat : Ev (fun k => boarderlaw02_CodeTurned.j0 k l a t true) true := Ev.step (fun k => by rw [boarderlaw02_CodeTurned.j0]) (Ev.pos rfl hk)
  refine Ev.rounds (g := fun k => boarderlaw02_CodeTurned.f k l a t) ?_
  unfold boarderlaw02_CodeTurned.f
  by_cases h0 : (l.length : Int) = 0
  · exact Ev.pos h0 hgreat
  refine Ev.neg h0 ?_
  by_cases h1 : (l.length : Int) > 2000
  · rw [decide_eq_true h1]; exact hgreat
  rw [decide_eq_false h1]
  refine Ev.step (fun k => by rw [boarderlaw02_CodeTurned.j0]) (Ev.neg (by simp) (Ev.bind (frame_is l hb (by omega)) ?_))
  rw [if_neg h1]
  refine Ev.pos rfl ?_
  have e6 : (((frameL l).length : Int) != wrap64 ((l.length : Int) + 6)) = false := by
    rw [frameL_length, w64 (by omega) (by omega)]
    simp
  simp only [e6]
  have el : wrap64 (8 * (l.length : Int)) = ((8 * l.length : Nat) : Int) := by rw [w64 (by omega) (by omega)]; simp
  have eu : IntKind.u64.wrap ((8 * l.length : Nat) : Int) = ((8 * l.length : Nat) : Int) := by
    simp only [IntKind.wrap, IntKind.signed, IntKind.bits]
    simp
    omega
  have ea : 0 ≤ IntKind.u64.wrap a := by
    simp only [IntKind.wrap, IntKind.signed, IntKind.bits]
    simp
    omega
  refine Ev.step (fun k => by rw [boarderlaw02_CodeTurned.j1]) (Ev.neg (by simp) ?_)
  simp only [el, eu]
  refine Ev.neg (by omega) ?_
  rw [Int.tmod_eq_emod_of_nonneg ea]
  have h2 := Int.emod_nonneg (IntKind.u64.wrap a) (b := ((8 * l.length : Nat) : Int)) (by omega)
  have h3 := Int.emod_lt_of_pos (IntKind.u64.wrap a) (b := ((8 * l.length : Nat) : Int)) (by omega)
  obtain ⟨first, hfi⟩ := Int.eq_ofNat_of_zero_le h2
  rw [hfi] at h3 ⊢
  rw [w64 (by omega) (by omega)]
  exact loop_is l (by omega) hb first (by omega) t ht 32 0 _ false (by omega) ⟨by omega, ⟨l, rfl, rfl, hb, by simp [msk, itr_nought]⟩, rfl⟩
end Go.Proofs.Ytfnckgpfooilmaa.Pure
