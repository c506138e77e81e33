/- Plain numbers and lists: digits of a number to the base 256, and what the printed texts' words do with them. No program. -/
import Derived.Test.YtfnckgpfooilmaaWWords
import Derived.Test.YtfnckgpfooilmaaWMore
set_option linter.unusedVariables false
namespace Go.Proofs.Ytfnckgpfooilmaa.Plain
set_option linter.unusedSimpArgs false
open Go.RowKit Go.Proofs.YtfnckgpfooilmaaW.PrintWords Go.Proofs.YtfnckgpfooilmaaW.PrintLast Go.Proofs.YtfnckgpfooilmaaW.PrintMore

theorem w64 {x : Int} (h0 : -9223372036854775808 ≤ x) (h1 : x < 9223372036854775808) : wrap64 x = x := by unfold wrap64; omega

theorem Ev.pos {α : Type} {c : Prop} [Decidable c] {A B : Nat → Option α} {r : α} (h : c) (e : Ev A r) : Ev (fun k => if c then A k else B k) r :=
  Ev.congr (fun _ => if_pos h) e
theorem Ev.neg {α : Type} {c : Prop} [Decidable c] {A B : Nat → Option α} {r : α} (h : ¬ c) (e : Ev B r) : Ev (fun k => if c then A k else B k) r :=
  Ev.congr (fun _ => if_neg h) e
theorem Ev.eq {α : Type} {g : Nat → Option α} {r r' : α} (e : Ev g r) (h : r = r') : Ev g r' := h ▸ e
theorem Ev.const {α : Type} {r r' : α} (h : r = r') : Ev (fun _ => some r) r' := h ▸ Ev.now r

/-- Are all of a list bytes? -/
def Bytes (l : List Int) : Prop := ∀ x ∈ l, 0 ≤ x ∧ x < 256
theorem bytes_of_wf {l : List Int} (h : ∀ x ∈ l, (Lit.int .u8 x).wf = true) : Bytes l := by
  intro x hx
  have := h x hx
  simp only [Lit.wf, IntKind.min, IntKind.max, IntKind.signed, IntKind.bits, Bool.and_eq_true, decide_eq_true_eq] at this
  simp at this
  omega
theorem i64_of_wf {x : Int} (h : (Lit.int .i64 x).wf = true) : -9223372036854775808 ≤ x ∧ x < 9223372036854775808 := by
  simp only [Lit.wf, IntKind.min, IntKind.max, IntKind.signed, IntKind.bits, Bool.and_eq_true, decide_eq_true_eq] at h
  simp at h
  omega
theorem u32_of_wf {x : Int} (h : (Lit.int .u32 x).wf = true) : 0 ≤ x ∧ x < 4294967296 := by
  simp only [Lit.wf, IntKind.min, IntKind.max, IntKind.signed, IntKind.bits, Bool.and_eq_true, decide_eq_true_eq] at h
  simp at h
  omega
theorem Bytes.nil : Bytes [] := by intro x hx; cases hx
theorem Bytes.cons {x : Int} {l : List Int} (h : 0 ≤ x ∧ x < 256) (hl : Bytes l) : Bytes (x :: l) := by
  intro y hy
  rcases List.mem_cons.1 hy with rfl | hy
  · exact h
  · exact hl y hy
theorem Bytes.append {a b : List Int} (ha : Bytes a) (hb : Bytes b) : Bytes (a ++ b) := by
  intro y hy
  rcases List.mem_append.1 hy with hy | hy
  · exact ha y hy
  · exact hb y hy
theorem Bytes.take {a : List Int} (ha : Bytes a) (n : Nat) : Bytes (a.take n) := fun y hy => ha y (List.mem_of_mem_take hy)
theorem Bytes.drop {a : List Int} (ha : Bytes a) (n : Nat) : Bytes (a.drop n) := fun y hy => ha y (List.mem_of_mem_drop hy)
theorem Bytes.left {a b : List Int} (h : Bytes (a ++ b)) : Bytes a := fun y hy => h y (List.mem_append_left _ hy)
theorem Bytes.right {a b : List Int} (h : Bytes (a ++ b)) : Bytes b := fun y hy => h y (List.mem_append_right _ hy)
theorem Bytes.rd {l : List Int} (h : Bytes l) (i : Int) : 0 ≤ Go.Proofs.YtfnckgpfooilmaaW.PrintWords.rd l i ∧ Go.Proofs.YtfnckgpfooilmaaW.PrintWords.rd l i < 256 := by
  unfold Go.Proofs.YtfnckgpfooilmaaW.PrintWords.rd
  rcases Nat.lt_or_ge i.toNat l.length with hi | hi
  · rw [List.getD_eq_getElem?_getD, List.getElem?_eq_getElem hi]
    exact h _ (List.getElem_mem hi)
  · rw [List.getD_eq_getElem?_getD, List.getElem?_eq_none hi]
    exact ⟨Int.le_refl _, by decide⟩

/-! ### texts of bytes -/
theorem str_toList (l : List Int) : (strOfNums l).toList = l.map fun n => UInt8.ofNat n.toNat := by
  rw [ByteArray.toList_eq]; exact strOfNums_data l
theorem str_inj {a b : List Int} (ha : Bytes a) (hb : Bytes b) : (strOfNums a).toList = (strOfNums b).toList ↔ a = b := by
  rw [str_toList, str_toList]
  constructor
  · intro h
    induction a generalizing b with
    | nil => cases b with
      | nil => rfl
      | cons y b => simp at h
    | cons x a ih =>
      cases b with
      | nil => simp at h
      | cons y b =>
        simp only [List.map_cons, List.cons.injEq] at h
        have hx := ha x List.mem_cons_self
        have hy := hb y List.mem_cons_self
        have e1 : x.toNat = y.toNat := by
          have h1 := congrArg UInt8.toNat h.1
          simp only [UInt8.toNat_ofNat'] at h1
          omega
        rw [show x = y by omega, ih (fun z hz => ha z (List.mem_cons_of_mem _ hz)) (fun z hz => hb z (List.mem_cons_of_mem _ hz)) h.2]
  · rintro rfl; rfl
theorem str_ne {a b : List Int} (h : (strOfNums a).toList ≠ (strOfNums b).toList) : a ≠ b := fun e => h (by rw [e])

/-! ### digits to the base 256 -/
def beL : Nat → Int → List Int
  | 0, _ => []
  | n + 1, v => beL n (v / 256) ++ [v % 256]
def valL (l : List Int) : Int := l.foldl (fun v b => v * 256 + b) 0

theorem beL_length : ∀ (n : Nat) (v : Int), (beL n v).length = n
  | 0, _ => rfl
  | n + 1, v => by simp [beL, beL_length n]
theorem beL_bytes : ∀ (n : Nat) (v : Int), Bytes (beL n v)
  | 0, _ => Bytes.nil
  | n + 1, v => (beL_bytes n _).append (Bytes.cons (by omega) Bytes.nil)
theorem pow_pos256 (n : Nat) : (0 : Int) < 256 ^ n := Int.pow_pos (by decide)
theorem pow256_succ (n : Nat) : (256 : Int) ^ (n + 1) = 256 ^ n * 256 := Int.pow_succ _ _
theorem beL_cons : ∀ (n : Nat) (v : Int), beL (n + 1) v = (v / 256 ^ n % 256) :: beL n v
  | 0, v => by simp [beL]
  | n + 1, v => by
    have ih := beL_cons n (v / 256)
    have e : v / 256 / 256 ^ n = v / 256 ^ (n + 1) := by
      rw [Int.ediv_ediv_of_nonneg (by decide), pow256_succ, Int.mul_comm]
    rw [beL, ih, e, List.cons_append]
    rfl
theorem valL_snoc (l : List Int) (b : Int) : valL (l ++ [b]) = valL l * 256 + b := by simp [valL, List.foldl_append]
theorem valL_beL : ∀ (n : Nat) (v : Int), 0 ≤ v → v < 256 ^ n → valL (beL n v) = v
  | 0, v, h0, h1 => by simp at h1; simp [beL, valL]; omega
  | n + 1, v, h0, h1 => by
    rw [pow256_succ] at h1
    rw [beL, valL_snoc, valL_beL n (v / 256) (by omega) (by omega)]
    omega
theorem valL_range : ∀ (n : Nat) (l : List Int), l.length = n → Bytes l → 0 ≤ valL l ∧ valL l < 256 ^ n
  | 0, l, hl, _ => by
    rw [List.eq_nil_of_length_eq_zero hl]
    simp [valL]
  | n + 1, l, hl, hb => by
    obtain ⟨l', b, rfl⟩ : ∃ l' b, l = l' ++ [b] := ⟨l.dropLast, l.getLast (by intro h; rw [h] at hl; cases hl), (List.dropLast_concat_getLast _).symm⟩
    have hl' : l'.length = n := by simpa using hl
    obtain ⟨h0, h1⟩ := valL_range n l' hl' hb.left
    have hbb := hb b (by simp)
    rw [valL_snoc, pow256_succ]
    omega
theorem beL_valL : ∀ (n : Nat) (l : List Int), l.length = n → Bytes l → beL n (valL l) = l
  | 0, l, hl, _ => by rw [List.eq_nil_of_length_eq_zero hl]; rfl
  | n + 1, l, hl, hb => by
    obtain ⟨l', b, rfl⟩ : ∃ l' b, l = l' ++ [b] := ⟨l.dropLast, l.getLast (by intro h; rw [h] at hl; cases hl), (List.dropLast_concat_getLast _).symm⟩
    have hl' : l'.length = n := by simpa using hl
    have hbb := hb b (by simp)
    rw [valL_snoc, beL, show (valL l' * 256 + b) / 256 = valL l' by omega, show (valL l' * 256 + b) % 256 = b by omega, beL_valL n l' hl' hb.left]
theorem pow256_le7 {n : Nat} (h : n ≤ 7) : (256 : Int) ^ n ≤ 72057594037927936 := by
  rcases n with _ | _ | _ | _ | _ | _ | _ | _ | n
  all_goals first | decide | omega

/-! ### the words of the walk on numbers -/
theorem two_pow_8 (n : Nat) : (2 : Int) ^ (8 * n) = 256 ^ n := by
  rw [Int.pow_mul]; rfl
theorem shr64 {x y : Int} (h : y ≤ 64) (h0 : 0 ≤ y) : shr .i64 x y = x / 2 ^ y.toNat := by
  unfold shr
  rw [Nat.min_eq_left (by show y.toNat ≤ 64; omega)]
theorem bits_or {a b : Int} (h0 : 0 ≤ a) (h1 : a < 36028797018963968) (hb : 0 ≤ b) (hb1 : b < 256) : Go.bits .or .i64 (a * 256) b = a * 256 + b := by
  obtain ⟨m, rfl⟩ := Int.eq_ofNat_of_zero_le h0
  obtain ⟨n, rfl⟩ := Int.eq_ofNat_of_zero_le hb
  have e1 : BitVec.ofInt 64 ((m : Int) * 256) = BitVec.ofNat 64 (m * 256) := by
    rw [show (m : Int) * 256 = ((m * 256 : Nat) : Int) by simp, BitVec.ofInt_natCast]
  have e2 : BitVec.ofInt 64 (n : Int) = BitVec.ofNat 64 n := BitVec.ofInt_natCast ..
  have e3 : (BitVec.ofNat 64 (m * 256) ||| BitVec.ofNat 64 n).toNat = m * 256 + n := by
    rw [BitVec.toNat_or, BitVec.toNat_ofNat, BitVec.toNat_ofNat, Nat.mod_eq_of_lt (by omega), Nat.mod_eq_of_lt (by omega)]
    have := Nat.two_pow_add_eq_or_of_lt (i := 8) (b := n) (by omega) m
    rw [Nat.mul_comm m 256]
    exact this.symm
  have e4 : Go.bits .or .i64 ((m : Int) * 256) (n : Int) = IntKind.i64.wrap (((BitVec.ofInt 64 ((m : Int) * 256) ||| BitVec.ofInt 64 (n : Int)).toNat : Nat) : Int) := rfl
  rw [e4, e1, e2, e3, i64_w, w64 (by omega) (by omega)]
  simp
end Go.Proofs.Ytfnckgpfooilmaa.Plain
