import Derived.Test.YtcmicdcikechkaaFlips04
import Derived.Test.YtcmicdcikechkaaFlips05
import Derived.Laws.Shifts
import Derived.Test.YtcmicdcikechkaaFlips19
import Derived.Test.YtcmicdcikechkaaFlips21
set_option linter.all false
section
namespace Go.H
open Go.RowKit
def stepN (r : Nat) : Nat := if r % 2 = 1 then (r / 2) ^^^ 2197175160 else r / 2
def stepsN : Nat → Nat → Nat
  | 0, r => r
  | n + 1, r => stepN (stepsN n r)
theorem xor_div2 (a b : Nat) : (a ^^^ b) / 2 = a / 2 ^^^ b / 2 := by
  have := Nat.shiftRight_xor_distrib (a := a) (b := b) (i := 1)
  simpa [Nat.shiftRight_eq_div_pow] using this
theorem xor_mod2 (a b : Nat) : (a ^^^ b) % 2 = (a % 2 ^^^ b % 2) := by
  have := Nat.xor_mod_two_pow (a := a) (b := b) (n := 1)
  simpa using this
theorem stepN_xor (a b : Nat) : stepN (a ^^^ b) = stepN a ^^^ stepN b := by
  unfold stepN
  rw [xor_div2, xor_mod2]
  rcases Nat.mod_two_eq_zero_or_one a with h1 | h1 <;> rcases Nat.mod_two_eq_zero_or_one b with h2 | h2 <;> simp only [h1, h2]
  · simp
  · simp [Nat.xor_assoc]
  · simp only [show (1 ^^^ 0 : Nat) = 1 from rfl, if_true, if_false, show ¬ (0 : Nat) = 1 by omega]
    rw [Nat.xor_assoc, Nat.xor_assoc, Nat.xor_comm (b / 2)]
  · simp only [show (1 ^^^ 1 : Nat) = 0 from rfl, if_true, if_false, show ¬ (0 : Nat) = 1 by omega]
    rw [Nat.xor_assoc, Nat.xor_comm (b / 2), ← Nat.xor_assoc 2197175160, Nat.xor_self, Nat.zero_xor]
theorem stepN_lt {r : Nat} (h : r < 2 ^ 32) : stepN r < 2 ^ 32 := by
  unfold stepN
  split
  · exact Nat.xor_lt_two_pow (by omega) (by omega)
  · omega
theorem stepN_top {r : Nat} (h : r < 2 ^ 32) : stepN r / 2 ^ 31 = r % 2 := by
  unfold stepN
  split
  · rename_i e
    have := Nat.shiftRight_xor_distrib (a := r / 2) (b := 2197175160) (i := 31)
    simp only [Nat.shiftRight_eq_div_pow] at this
    rw [this, show r / 2 / 2 ^ 31 = 0 by omega, e]
    rfl
  · omega
theorem stepN_inj {a b : Nat} (ha : a < 2 ^ 32) (hb : b < 2 ^ 32) (h : stepN a = stepN b) : a = b := by
  have h1 := stepN_top ha
  have h2 := stepN_top hb
  rw [h] at h1
  have h3 : a % 2 = b % 2 := h1.symm.trans h2
  unfold stepN at h
  rw [h3] at h
  split at h
  · have h4 : a / 2 ^^^ 2197175160 ^^^ 2197175160 = b / 2 ^^^ 2197175160 ^^^ 2197175160 := by rw [h]
    rw [Nat.xor_assoc, Nat.xor_assoc, Nat.xor_self, Nat.xor_zero, Nat.xor_zero] at h4
    omega
  · omega
theorem stepsN_lt {r : Nat} (h : r < 2 ^ 32) : ∀ n, stepsN n r < 2 ^ 32
  | 0 => h
  | n + 1 => stepN_lt (stepsN_lt h n)
theorem stepsN_xor (a b : Nat) : ∀ n, stepsN n (a ^^^ b) = stepsN n a ^^^ stepsN n b
  | 0 => rfl
  | n + 1 => by simp only [stepsN, stepsN_xor a b n, stepN_xor]
theorem stepsN_inj {a b : Nat} (ha : a < 2 ^ 32) (hb : b < 2 ^ 32) : ∀ n, stepsN n a = stepsN n b → a = b
  | 0, h => h
  | n + 1, h => stepsN_inj ha hb n (stepN_inj (stepsN_lt ha n) (stepsN_lt hb n) h)
theorem stepsN_add (r : Nat) (m : Nat) : ∀ n, stepsN (n + m) r = stepsN n (stepsN m r)
  | 0 => by rw [Nat.zero_add]; rfl
  | n + 1 => by rw [show n + 1 + m = (n + m) + 1 by omega]; simp only [stepsN, stepsN_add r m n]
theorem stepsN_shift (y : Nat) : ∀ n, stepsN n (y * 2 ^ n) = y
  | 0 => by simp [stepsN]
  | n + 1 => by
    rw [stepsN_add _ 1 n]
    have : stepsN 1 (y * 2 ^ (n + 1)) = y * 2 ^ n := by
      show stepN (y * 2 ^ (n + 1)) = _
      unfold stepN
      have e : y * 2 ^ (n + 1) = 2 * (y * 2 ^ n) := by rw [Nat.pow_succ]; rw [← Nat.mul_assoc, Nat.mul_comm _ 2]
      rw [e, if_neg (by omega)]
      omega
    rw [this, stepsN_shift y n]
theorem xor_parts (x n : Nat) : x = (x % 2 ^ n) ^^^ (x / 2 ^ n * 2 ^ n) := by
  apply Nat.eq_of_testBit_eq
  intro i
  rw [Nat.testBit_xor, Nat.testBit_mod_two_pow, Nat.mul_comm, Nat.testBit_two_pow_mul, Nat.testBit_div_two_pow]
  by_cases h : i < n
  · simp [h, show ¬ n ≤ i by omega]
  · simp [h, show n ≤ i by omega]
theorem steps_parts (x n : Nat) : stepsN n x = stepsN n (x % 2 ^ n) ^^^ x / 2 ^ n := by
  rw [show stepsN n x = stepsN n ((x % 2 ^ n) ^^^ (x / 2 ^ n * 2 ^ n)) from congrArg _ (xor_parts x n), stepsN_xor, stepsN_shift]
theorem bits_xor32 {a b : Nat} (ha : a < 2 ^ 32) (hb : b < 2 ^ 32) : bits .xor .u32 (a : Int) (b : Int) = ((a ^^^ b : Nat) : Int) := by
  simp only [bits, BitVec.ofInt_natCast, BitVec.toNat_xor, BitVec.toNat_ofNat]
  rw [show IntKind.u32.bits = 32 from rfl, Nat.mod_eq_of_lt ha, Nat.mod_eq_of_lt hb]
  have h := Nat.xor_lt_two_pow ha hb
  exact wraps_u32' _ (by omega) (by omega)
theorem bits_xor8 {a b : Nat} (ha : a < 2 ^ 8) (hb : b < 2 ^ 8) : bits .xor .u8 (a : Int) (b : Int) = ((a ^^^ b : Nat) : Int) := by
  simp only [bits, BitVec.ofInt_natCast, BitVec.toNat_xor, BitVec.toNat_ofNat]
  rw [show IntKind.u8.bits = 8 from rfl, Nat.mod_eq_of_lt ha, Nat.mod_eq_of_lt hb]
  have h := Nat.xor_lt_two_pow ha hb
  exact wraps_u8 _ (by omega) (by omega)
theorem crcStep_nat {r : Nat} (h : r < 2 ^ 32) : crcStep (r : Int) = (stepN r : Int) := by
  unfold crcStep stepN
  have h1 : bits .and .u32 (r : Int) 1 = (r : Int) % 2 := by
    have := bits_mask .u32 32 (by decide) wraps_u32' 1 (by decide) (r : Int) (by omega) (by omega)
    simpa using this
  rw [h1]
  have h2 : (r : Int) / 2 = ((r / 2 : Nat) : Int) := by omega
  by_cases e : r % 2 = 1
  · rw [if_pos (by omega), if_pos e, h2]
    exact bits_xor32 (b := 2197175160) (by omega) (by decide)
  · rw [if_neg (by omega), if_neg e, h2]
theorem crcN_nat {i : Nat} (h : i < 2 ^ 32) : ∀ n, crcN i n = (stepsN n i : Int)
  | 0 => rfl
  | n + 1 => by simp only [crcN, crcN_nat h n, stepsN, crcStep_nat (stepsN_lt h n)]
theorem tab_nat {i : Nat} (h : i < 256) : ∀ k, tab k i = (stepsN (8 * (k + 1)) i : Int)
  | 0 => crcN_nat (by omega) 8
  | k + 1 => by
    have hl : stepsN (8 * (k + 1)) i < 2 ^ 32 := stepsN_lt (by omega) _
    simp only [tab, tab_nat h k]
    rw [show 8 * (k + 1 + 1) = 8 + 8 * (k + 1) by omega, stepsN_add]
    generalize stepsN (8 * (k + 1)) i = y at hl
    rw [steps_parts y 8]
    have e1 : (y : Int) / 256 = ((y / 2 ^ 8 : Nat) : Int) := by omega
    have e2 : ((y : Int) % 256).toNat = y % 2 ^ 8 := by omega
    rw [e1, e2, crcN_nat (by omega) 8, bits_xor32 (by omega) (stepsN_lt (by omega) _), Nat.xor_comm]
theorem byte_xor_mod {r c : Nat} (hc : c < 256) : (r ^^^ c) % 2 ^ 8 = (r % 2 ^ 8) ^^^ c := by
  rw [Nat.xor_mod_two_pow, Nat.mod_eq_of_lt (show c < 2 ^ 8 by omega)]
theorem byte_xor_div {r c : Nat} (hc : c < 256) : (r ^^^ c) / 2 ^ 8 = r / 2 ^ 8 := by
  have := Nat.shiftRight_xor_distrib (a := r) (b := c) (i := 8)
  simp only [Nat.shiftRight_eq_div_pow] at this
  rw [this, show c / 2 ^ 8 = 0 by omega, Nat.xor_zero]
theorem crcByte_nat {r : Nat} (h : r < 2 ^ 32) (c : UInt8) : crcByte (r : Int) c = (stepsN 8 (r ^^^ c.toNat) : Int) := by
  have hc : c.toNat < 256 := c.toNat_lt
  unfold crcByte
  have e1 : (r : Int) / 256 = ((r / 2 ^ 8 : Nat) : Int) := by omega
  have e2 : (r : Int) % 256 = ((r % 2 ^ 8 : Nat) : Int) := by omega
  have hx : (r % 2 ^ 8) ^^^ c.toNat < 2 ^ 8 := Nat.xor_lt_two_pow (by omega) (by omega)
  rw [e1, e2, bits_xor8 (by omega) (by omega), Int.toNat_natCast, tab_nat (by omega) 0, bits_xor32 (by omega) (stepsN_lt (by omega) _), steps_parts (r ^^^ c.toNat) 8, byte_xor_mod hc, byte_xor_div hc, Nat.xor_comm]
def wordN (a b c d : UInt8) : Nat := a.toNat + b.toNat * 256 + c.toNat * 65536 + d.toNat * 16777216
theorem wordN_lt (a b c d : UInt8) : wordN a b c d < 2 ^ 32 := by
  have h1 := a.toNat_lt; have h2 := b.toNat_lt; have h3 := c.toNat_lt; have h4 := d.toNat_lt
  unfold wordN; omega
theorem crc4in_nat {r : Nat} (h : r < 2 ^ 32) (a b c d : UInt8) : crc4in (r : Int) a b c d = ((r ^^^ wordN a b c d : Nat) : Int) := by
  have h1 := a.toNat_lt; have h2 := b.toNat_lt; have h3 := c.toNat_lt; have h4 := d.toNat_lt
  have e1 : bits .or .u32 (a.toNat : Int) ((b.toNat : Int) * 256) = (a.toNat : Int) + (b.toNat : Int) * 256 := by
    rw [bits_or_comm, bits_join .u32 32 (by decide) wraps_u32' 8 _ _ (by omega) (by omega) (by omega) (by omega) (by omega) (by omega)]; omega
  have e2 : bits .or .u32 ((a.toNat : Int) + (b.toNat : Int) * 256) ((c.toNat : Int) * 65536) = (a.toNat : Int) + (b.toNat : Int) * 256 + (c.toNat : Int) * 65536 := by
    rw [bits_or_comm, bits_join .u32 32 (by decide) wraps_u32' 16 _ _ (by omega) (by omega) (by omega) (by omega) (by omega) (by omega)]; omega
  have e3 : bits .or .u32 ((a.toNat : Int) + (b.toNat : Int) * 256 + (c.toNat : Int) * 65536) ((d.toNat : Int) * 16777216) = (wordN a b c d : Int) := by
    rw [bits_or_comm, bits_join .u32 32 (by decide) wraps_u32' 24 _ _ (by omega) (by omega) (by omega) (by omega) (by omega) (by omega)]; unfold wordN; omega
  unfold crc4in
  rw [e1, e2, e3, bits_xor32 h (wordN_lt a b c d)]
theorem split8 (x n : Nat) : stepsN (n + 8) x = stepsN (n + 8) (x % 2 ^ 8) ^^^ stepsN n (x / 2 ^ 8) := by rw [stepsN_add, steps_parts x 8, stepsN_xor, ← stepsN_add]
theorem steps32 (x : Nat) : stepsN 32 x = stepsN (8 * (3 + 1)) (x % 2 ^ 8) ^^^ stepsN (8 * (2 + 1)) (x / 2 ^ 8 % 2 ^ 8) ^^^ stepsN (8 * (1 + 1)) (x / 2 ^ 8 / 2 ^ 8 % 2 ^ 8) ^^^ stepsN (8 * (0 + 1)) (x / 2 ^ 8 / 2 ^ 8 / 2 ^ 8) := by
  have e1 : stepsN 32 x = stepsN 32 (x % 2 ^ 8) ^^^ stepsN 24 (x / 2 ^ 8) := split8 x 24
  have e2 : stepsN 24 (x / 2 ^ 8) = stepsN 24 (x / 2 ^ 8 % 2 ^ 8) ^^^ stepsN 16 (x / 2 ^ 8 / 2 ^ 8) := split8 _ 16
  have e3 : stepsN 16 (x / 2 ^ 8 / 2 ^ 8) = stepsN 16 (x / 2 ^ 8 / 2 ^ 8 % 2 ^ 8) ^^^ stepsN 8 (x / 2 ^ 8 / 2 ^ 8 / 2 ^ 8) := split8 _ 8
  rw [e1, e2, e3, ← Nat.xor_assoc, ← Nat.xor_assoc]
theorem crc4out_nat {x : Nat} (h : x < 2 ^ 32) : crc4out (x : Int) = (stepsN 32 x : Int) := by
  unfold crc4out
  have e0 : ((x : Int) % 256).toNat = x % 2 ^ 8 := by omega
  have e1 : ((x : Int) / 256 % 256).toNat = x / 2 ^ 8 % 2 ^ 8 := by omega
  have e2 : ((x : Int) / 65536 % 256).toNat = x / 2 ^ 8 / 2 ^ 8 % 2 ^ 8 := by omega
  have e3 : ((x : Int) / 16777216).toNat = x / 2 ^ 8 / 2 ^ 8 / 2 ^ 8 := by omega
  rw [e0, e1, e2, e3, tab_nat (by omega) 3, tab_nat (by omega) 2, tab_nat (by omega) 1, tab_nat (by omega) 0]
  have l3 : stepsN (8 * (3 + 1)) (x % 2 ^ 8) < 2 ^ 32 := stepsN_lt (by omega) _
  have l2 : stepsN (8 * (2 + 1)) (x / 2 ^ 8 % 2 ^ 8) < 2 ^ 32 := stepsN_lt (by omega) _
  have l1 : stepsN (8 * (1 + 1)) (x / 2 ^ 8 / 2 ^ 8 % 2 ^ 8) < 2 ^ 32 := stepsN_lt (by omega) _
  have l0 : stepsN (8 * (0 + 1)) (x / 2 ^ 8 / 2 ^ 8 / 2 ^ 8) < 2 ^ 32 := stepsN_lt (by omega) _
  rw [bits_xor32 l3 l2, bits_xor32 (Nat.xor_lt_two_pow l3 l2) l1, bits_xor32 (Nat.xor_lt_two_pow (Nat.xor_lt_two_pow l3 l2) l1) l0]
  rw [steps32 x]
theorem u32_nat {x : Int} (h : U32 x) : ∃ n : Nat, n < 2 ^ 32 ∧ x = (n : Int) := ⟨x.toNat, by obtain ⟨h1, h2⟩ := h; omega, by obtain ⟨h1, h2⟩ := h; omega⟩
theorem nat_u32 {n : Nat} (h : n < 2 ^ 32) : U32 (n : Int) := ⟨by omega, by omega⟩
theorem xor_cancel_l {a b c : Nat} (h : a ^^^ b = a ^^^ c) : b = c := by
  have := congrArg (a ^^^ ·) h
  simpa [← Nat.xor_assoc] using this
theorem xor_cancel_r {a b c : Nat} (h : b ^^^ a = c ^^^ a) : b = c := by
  rw [Nat.xor_comm b, Nat.xor_comm c] at h; exact xor_cancel_l h
def outN (r : Nat) (a b c d : UInt8) : Nat := stepsN 32 (r ^^^ wordN a b c d)
theorem crcAll_inj : ∀ (l : List UInt8) {r r' : Nat}, r < 2 ^ 32 → r' < 2 ^ 32 → crcAll (r : Int) l = crcAll (r' : Int) l → r = r'
  | a :: b :: c :: d :: l, r, r', h, h', e => by
    simp only [crcAll] at e
    have hx := Nat.xor_lt_two_pow h (wordN_lt a b c d)
    have hx' := Nat.xor_lt_two_pow h' (wordN_lt a b c d)
    rw [crc4in_nat h, crc4in_nat h', crc4out_nat hx, crc4out_nat hx'] at e
    exact xor_cancel_r (stepsN_inj hx hx' 32 (crcAll_inj l (stepsN_lt hx _) (stepsN_lt hx' _) e))
  | [a, b, c], r, r', h, h', e => by
    rw [crcAll_one (r : Int) a [b, c] (by simp), crcAll_one (r' : Int) a [b, c] (by simp)] at e
    have ha : a.toNat < 2 ^ 32 := by have := a.toNat_lt; omega
    rw [crcByte_nat h, crcByte_nat h'] at e
    exact xor_cancel_r (stepsN_inj (Nat.xor_lt_two_pow h ha) (Nat.xor_lt_two_pow h' ha) 8 (crcAll_inj [b, c] (stepsN_lt (Nat.xor_lt_two_pow h ha) _) (stepsN_lt (Nat.xor_lt_two_pow h' ha) _) e))
  | [a, b], r, r', h, h', e => by
    rw [crcAll_one (r : Int) a [b] (by simp), crcAll_one (r' : Int) a [b] (by simp)] at e
    have ha : a.toNat < 2 ^ 32 := by have := a.toNat_lt; omega
    rw [crcByte_nat h, crcByte_nat h'] at e
    exact xor_cancel_r (stepsN_inj (Nat.xor_lt_two_pow h ha) (Nat.xor_lt_two_pow h' ha) 8 (crcAll_inj [b] (stepsN_lt (Nat.xor_lt_two_pow h ha) _) (stepsN_lt (Nat.xor_lt_two_pow h' ha) _) e))
  | [a], r, r', h, h', e => by
    rw [crcAll_one (r : Int) a [] (by simp), crcAll_one (r' : Int) a [] (by simp)] at e
    have ha : a.toNat < 2 ^ 32 := by have := a.toNat_lt; omega
    rw [crcByte_nat h, crcByte_nat h'] at e
    exact xor_cancel_r (stepsN_inj (Nat.xor_lt_two_pow h ha) (Nat.xor_lt_two_pow h' ha) 8 (crcAll_inj [] (stepsN_lt (Nat.xor_lt_two_pow h ha) _) (stepsN_lt (Nat.xor_lt_two_pow h' ha) _) e))
  | [], r, r', h, h', e => by simp only [crcAll] at e; omega
theorem u8_ne {a b : UInt8} (h : a ≠ b) : a.toNat ≠ b.toNat := fun e => h (UInt8.toNat_inj.1 e)
inductive OneOff : List UInt8 → List UInt8 → Prop
  | here {a b : UInt8} {l : List UInt8} : a ≠ b → OneOff (a :: l) (b :: l)
  | there {a : UInt8} {l m : List UInt8} : OneOff l m → OneOff (a :: l) (a :: m)
theorem OneOff.len {l m : List UInt8} (h : OneOff l m) : l.length = m.length := by
  induction h with
  | here _ => rfl
  | there _ ih => simp [ih]
theorem crcAll_off : ∀ (l m : List UInt8) {r : Nat}, r < 2 ^ 32 → OneOff l m → crcAll (r : Int) l ≠ crcAll (r : Int) m
  | a :: b :: c :: d :: l, m, r, h, ho, e => by
    obtain ⟨a', m1, rfl⟩ : ∃ x y, m = x :: y := by cases ho <;> exact ⟨_, _, rfl⟩
    obtain ⟨b', m2, rfl⟩ : ∃ x y, m1 = x :: y := by have := ho.len; cases m1 with | nil => simp at this | cons x y => exact ⟨x, y, rfl⟩
    obtain ⟨c', m3, rfl⟩ : ∃ x y, m2 = x :: y := by have := ho.len; cases m2 with | nil => simp at this | cons x y => exact ⟨x, y, rfl⟩
    obtain ⟨d', m4, rfl⟩ : ∃ x y, m3 = x :: y := by have := ho.len; cases m3 with | nil => simp at this | cons x y => exact ⟨x, y, rfl⟩
    simp only [crcAll] at e
    have hx := Nat.xor_lt_two_pow h (wordN_lt a b c d)
    have hx' := Nat.xor_lt_two_pow h (wordN_lt a' b' c' d')
    rw [crc4in_nat h, crc4in_nat h, crc4out_nat hx, crc4out_nat hx'] at e
    have h1 := a.toNat_lt; have h2 := b.toNat_lt; have h3 := c.toNat_lt; have h4 := d.toNat_lt
    have k1 := a'.toNat_lt; have k2 := b'.toNat_lt; have k3 := c'.toNat_lt; have k4 := d'.toNat_lt
    have word : ∀ {m' : List UInt8}, l = m' → crcAll ((stepsN 32 (r ^^^ wordN a b c d) : Nat) : Int) l = crcAll ((stepsN 32 (r ^^^ wordN a' b' c' d') : Nat) : Int) m' → wordN a b c d = wordN a' b' c' d' := fun hm e => by
      subst hm
      exact xor_cancel_l (stepsN_inj hx hx' 32 (crcAll_inj l (stepsN_lt hx _) (stepsN_lt hx' _) e))
    cases ho with
    | here hne =>
      have := word rfl e
      have := u8_ne hne
      unfold wordN at *; omega
    | there ho => cases ho with
      | here hne =>
        have := word rfl e
        have := u8_ne hne
        unfold wordN at *; omega
      | there ho => cases ho with
        | here hne =>
          have := word rfl e
          have := u8_ne hne
          unfold wordN at *; omega
        | there ho => cases ho with
          | here hne =>
            have := word rfl e
            have := u8_ne hne
            unfold wordN at *; omega
          | there ho => exact crcAll_off l m4 (stepsN_lt hx _) ho e
  | [a, b, c], m, r, h, ho, e => by
    obtain ⟨a', m1, rfl⟩ : ∃ x y, m = x :: y := by cases ho <;> exact ⟨_, _, rfl⟩
    have hl := ho.len
    rw [crcAll_one (r : Int) a [b, c] (by simp), crcAll_one (r : Int) a' m1 (by simp only [List.length_cons, List.length_nil] at hl; omega)] at e
    have ha : a.toNat < 2 ^ 32 := by have := a.toNat_lt; omega
    have ha' : a'.toNat < 2 ^ 32 := by have := a'.toNat_lt; omega
    rw [crcByte_nat h, crcByte_nat h] at e
    cases ho with
    | here hne => exact u8_ne hne (xor_cancel_l (stepsN_inj (Nat.xor_lt_two_pow h ha) (Nat.xor_lt_two_pow h ha') 8 (crcAll_inj [b, c] (stepsN_lt (Nat.xor_lt_two_pow h ha) _) (stepsN_lt (Nat.xor_lt_two_pow h ha') _) e)))
    | there ho => exact crcAll_off [b, c] m1 (stepsN_lt (Nat.xor_lt_two_pow h ha) _) ho e
  | [a, b], m, r, h, ho, e => by
    obtain ⟨a', m1, rfl⟩ : ∃ x y, m = x :: y := by cases ho <;> exact ⟨_, _, rfl⟩
    have hl := ho.len
    rw [crcAll_one (r : Int) a [b] (by simp), crcAll_one (r : Int) a' m1 (by simp only [List.length_cons, List.length_nil] at hl; omega)] at e
    have ha : a.toNat < 2 ^ 32 := by have := a.toNat_lt; omega
    have ha' : a'.toNat < 2 ^ 32 := by have := a'.toNat_lt; omega
    rw [crcByte_nat h, crcByte_nat h] at e
    cases ho with
    | here hne => exact u8_ne hne (xor_cancel_l (stepsN_inj (Nat.xor_lt_two_pow h ha) (Nat.xor_lt_two_pow h ha') 8 (crcAll_inj [b] (stepsN_lt (Nat.xor_lt_two_pow h ha) _) (stepsN_lt (Nat.xor_lt_two_pow h ha') _) e)))
    | there ho => exact crcAll_off [b] m1 (stepsN_lt (Nat.xor_lt_two_pow h ha) _) ho e
  | [a], m, r, h, ho, e => by
    obtain ⟨a', m1, rfl⟩ : ∃ x y, m = x :: y := by cases ho <;> exact ⟨_, _, rfl⟩
    have hl := ho.len
    rw [crcAll_one (r : Int) a [] (by simp), crcAll_one (r : Int) a' m1 (by simp only [List.length_cons, List.length_nil] at hl; omega)] at e
    have ha : a.toNat < 2 ^ 32 := by have := a.toNat_lt; omega
    have ha' : a'.toNat < 2 ^ 32 := by have := a'.toNat_lt; omega
    rw [crcByte_nat h, crcByte_nat h] at e
    cases ho with
    | here hne => exact u8_ne hne (xor_cancel_l (stepsN_inj (Nat.xor_lt_two_pow h ha) (Nat.xor_lt_two_pow h ha') 8 (crcAll_inj [] (stepsN_lt (Nat.xor_lt_two_pow h ha) _) (stepsN_lt (Nat.xor_lt_two_pow h ha') _) e)))
    | there ho => cases ho
  | [], m, r, h, ho, e => by cases ho
theorem crcAll_u : ∀ (l : List UInt8) {r : Nat}, r < 2 ^ 32 → U32 (crcAll (r : Int) l)
  | a :: b :: c :: d :: l, r, h => by
    simp only [crcAll]
    have hx := Nat.xor_lt_two_pow h (wordN_lt a b c d)
    rw [crc4in_nat h, crc4out_nat hx]
    exact crcAll_u l (stepsN_lt hx _)
  | [a, b, c], r, h => by
    rw [crcAll_one _ _ _ (by simp), crcByte_nat h]
    exact crcAll_u [b, c] (stepsN_lt (Nat.xor_lt_two_pow h (by have := a.toNat_lt; omega)) _)
  | [a, b], r, h => by
    rw [crcAll_one _ _ _ (by simp), crcByte_nat h]
    exact crcAll_u [b] (stepsN_lt (Nat.xor_lt_two_pow h (by have := a.toNat_lt; omega)) _)
  | [a], r, h => by
    rw [crcAll_one _ _ _ (by simp), crcByte_nat h]
    exact crcAll_u [] (stepsN_lt (Nat.xor_lt_two_pow h (by have := a.toNat_lt; omega)) _)
  | [], r, h => nat_u32 h
theorem crc_off {l m : List UInt8} (h : OneOff l m) : crc l ≠ crc m := fun e => by
  have hm : (4294967295 : Nat) < 2 ^ 32 := by decide
  obtain ⟨x, hx, ex⟩ := u32_nat (crcAll_u l hm)
  obtain ⟨y, hy, ey⟩ := u32_nat (crcAll_u m hm)
  have e1 : crcAll (4294967295 : Int) l = (x : Int) := ex
  have e2 : crcAll (4294967295 : Int) m = (y : Int) := ey
  unfold crc at e
  rw [e1, e2, show IntKind.u32.max = ((4294967295 : Nat) : Int) from rfl, bits_xor32 hm hx, bits_xor32 hm hy] at e
  have : x = y := xor_cancel_l (by exact_mod_cast e)
  exact crcAll_off l m hm h (by rw [ex, ey, this])
end Go.H
end
section
namespace Go.H
open Go.RowKit
theorem small_inj : ∀ (l m : List UInt8) (a b : Nat), l.length = m.length → l.foldl (fun u c => u * 256 + c.toNat) a = m.foldl (fun u c => u * 256 + c.toNat) b → a = b ∧ l = m
  | [], [], a, b, _, h => ⟨h, rfl⟩
  | [], _ :: _, _, _, h, _ => by simp at h
  | _ :: _, [], _, _, h, _ => by simp at h
  | x :: l, y :: m, a, b, hl, h => by
    have ih := small_inj l m (a * 256 + x.toNat) (b * 256 + y.toNat) (by simpa using hl) h
    have h1 := x.toNat_lt
    have h2 := y.toNat_lt
    have e := ih.1
    have e1 : a = b := by omega
    have e2 : x.toNat = y.toNat := by omega
    exact ⟨e1, by rw [UInt8.toNat_inj.1 e2, ih.2]⟩
theorem OneOff.ne {l m : List UInt8} (h : OneOff l m) : l ≠ m := by
  induction h with
  | here h => intro e; injection e with e; exact h e
  | there h ih => intro e; injection e with _ e; exact ih e
theorem OneOff.cut {l m : List UInt8} (h : OneOff l m) : ∀ n, (l.take n = m.take n ∧ OneOff (l.drop n) (m.drop n)) ∨ (OneOff (l.take n) (m.take n) ∧ l.drop n = m.drop n) := by
  induction h with
  | here h =>
    intro n
    cases n with
    | zero => exact .inl ⟨rfl, .here h⟩
    | succ n => exact .inr ⟨.here h, rfl⟩
  | there h ih =>
    intro n
    cases n with
    | zero => exact .inl ⟨rfl, .there h⟩
    | succ n =>
      rcases ih n with ⟨e1, e2⟩ | ⟨e1, e2⟩
      · exact .inl ⟨by simp [e1], e2⟩
      · exact .inr ⟨.there e1, e2⟩
theorem page_flip {b b' : Bs} {l : Bs} (hp : pageOf b = some l) (h : OneOff b b') : pageOf b' = none := by
  have hc : crc (b.drop 4) = (smallN (b.take 4) : Int) := by
    unfold pageOf at hp
    split at hp
    · cases hp
    · split at hp
      · cases hp
      · split at hp
        · assumption
        · cases hp
  have hn : ¬ crc (b'.drop 4) = (smallN (b'.take 4) : Int) := by
    rcases h.cut 4 with ⟨e1, e2⟩ | ⟨e1, e2⟩
    · intro e
      rw [← e1, ← hc] at e
      exact crc_off e2 e.symm
    · intro e
      rw [← e2, hc] at e
      have e3 : smallN (b.take 4) = smallN (b'.take 4) := by omega
      exact e1.ne (small_inj _ _ 0 0 e1.len e3).2
  unfold pageOf
  rw [if_neg hn]
  split
  · rfl
  · split <;> rfl
end Go.H
end
section
namespace Go.Proofs.Ytcmicdcikechkaa
open Go.RowKit Go.H
set_option maxHeartbeats 1000000
set_option maxRecDepth 100000
@[go_sem] theorem xor_bv (c : UInt8) (y : Int) (w : World) : (binOp .xor 5 (bv c) (.int .u8 y)).run Try.prog w = .ok (.int .u8 (bits .xor .u8 (c.toNat : Int) y)) w := by
  unfold bv
  first | rfl | simp [go_sem]
theorem flip_byte (c : UInt8) (i : Nat) (hi : i < 8) : ∃ b : UInt8, Value.int .u8 (bits .xor .u8 (c.toNat : Int) (IntKind.u8.wrap (2 ^ min i 8))) = bv b ∧ c ≠ b := by
  have h2 : (2 : Nat) ^ i < 2 ^ 8 := Nat.pow_lt_pow_right (by omega) hi
  have hw : IntKind.u8.wrap (2 ^ min i 8) = ((2 ^ i : Nat) : Int) := by
    have : i = 0 ∨ i = 1 ∨ i = 2 ∨ i = 3 ∨ i = 4 ∨ i = 5 ∨ i = 6 ∨ i = 7 := by omega
    rcases this with rfl | rfl | rfl | rfl | rfl | rfl | rfl | rfl <;> rfl
  have hc := c.toNat_lt
  have hx : c.toNat ^^^ 2 ^ i < 2 ^ 8 := Nat.xor_lt_two_pow hc h2
  rw [hw, bits_xor8 hc h2]
  refine ⟨UInt8.ofNat (c.toNat ^^^ 2 ^ i), ?_, fun e => ?_⟩
  · unfold bv
    rw [UInt8.toNat_ofNat_of_lt' hx]
  · have h3 := congrArg UInt8.toNat e
    rw [UInt8.toNat_ofNat_of_lt' hx] at h3
    have h4 : c.toNat ^^^ 0 = c.toNat ^^^ 2 ^ i := by simpa using h3
    have h5 := xor_cancel_l h4
    have h6 : 0 < 2 ^ i := Nat.two_pow_pos i
    omega
theorem oneoff_set : ∀ {l : List UInt8} {j : Nat} {b : UInt8} (h : j < l.length), l[j] ≠ b → OneOff l (l.set j b)
  | x :: l, 0, b, _, h => .here h
  | x :: l, j + 1, b, h, hb => .there (oneoff_set (by simpa using h) (by simpa using hb))
theorem flip_calls {F : Nat → Prop} {w : World} {d m k bit : Nat} {ov : Value} {s : DSt} (h : DiskA F w d m ov s) (hop : s.opn = []) (hk : k < s.blocks) (hbit : bit < 65536) (hF : ∀ b, w.heap.size ≤ b → F b) (hm : ¬ F m) (hdm : d ≠ m) (hom : ∀ b, ov.ownBlock = some b → b ≠ m) :
    Calls Try.prog 18 #[.pointer (some ⟨d, 0, none⟩), .int .i64 (k : Int), .int .i64 (bit : Int)] w fun e w' => e = .returned (.int .i64 0) ∧ ∃ l', OneOff (s.good k) l' ∧ DiskA F w' d m ov { s with kept := aset (k : Int) l' s.kept } ∧ Fr (fun b => b = m) w w' := by
  have HG := Lib.hid (good_calls h k)
  have HD := Lib.hid h
  have HK : (s.good k).length = 8192 := h.good_length k
  have h0 := blk_cell h.blk 0 rfl
  have h1 := blk_cell h.blk 1 rfl
  have h2 := blk_cell h.blk 2 rfl
  have n1 : ¬ (k : Int) < 0 := by omega
  have n2 : ¬ (s.blocks : Int) ≤ (k : Int) := by omega
  have n3 : ¬ (bit : Int) < 0 := by omega
  have n4 : ¬ (65536 : Int) ≤ (bit : Int) := by omega
  obtain ⟨xs0, o1, -⟩ := h.opn
  rw [hop] at o1
  obtain ⟨A, cp, rfl, -⟩ := own_form o1
  clear h o1
  go_enter Try.func18, Try.ntmps18
  go_wp2_with fail
  refine HG.out.mono ?_
  rintro e w1 ⟨rfl, g1, f1⟩
  have G1 := Lib.hid g1
  have F1 := Lib.hid f1
  have h1' := f1.cell0 h1
  have h2' := f1.cell0 h2
  clear f1 g1 HG h0 h1 h2
  obtain ⟨j, hj, hq2⟩ : ∃ j : Nat, j < 8192 ∧ (bit : Int) / 8 = (j : Int) := ⟨bit / 8, by omega, by omega⟩
  have hq : IntKind.i64.wrap (j : Int) = (j : Int) := wraps_i64 _ (by omega) (by omega)
  have hj2 : (j : Int) < 8192 := by omega
  have hr0 : 0 ≤ (bit : Int).tmod 8 := by rw [Int.tmod_eq_emod_of_nonneg (by omega)]; omega
  have cb : w1.cell? ⟨w.heap.size, j, none⟩ = some (bv ((s.good k)[j]'(by omega))) := blk_cell G1.out j (by simp [HK, hj])
  have zb := blk_free j G1.out
  go_wp2_with fail
  refine wp_region_L (Fr C0 w1) [10] (by kernel_rfl) ?_
  have hSw0 : (Fr C0 w1) _ := (Fr.refl _ w1).drew
  refine tk 0 hSw0 ?_
  refine tk 1 hSw0 ?_
  refine tk 2 hSw0 ?_
  refine tk 3 hSw0 ?_
  refine tk 4 hSw0 ?_ (hy := by intro w_ hS_; have b0 := hS_.cell0 cb; first | (go_simp; done) | (go_simp; with_reducible rfl))
  refine tk 5 hSw0 ?_
  refine tk 6 hSw0 ?_
  refine tk 7 hSw0 ?_
  refine tk 8 hSw0 ?_
  refine tk 9 hSw0 ?_
  refine late_ 10 rfl (fun K hK => ?_)
  go_simp
  refine hK.out _ _ ?_; clear hK K
  try simp only [Act.put, List.setIfInBounds_toArray, List.set_cons_zero, List.set_cons_succ]
  refine wpAnyL_done (by kernel_rfl) ?_ _
  obtain ⟨b', hb', hne⟩ := flip_byte ((s.good k)[j]'(by omega)) (((bit : Int).tmod 8).toNat) (by rw [Int.tmod_eq_emod_of_nonneg (by omega)]; omega)
  rw [hb']
  have g2 := blk_set (i := j) G1.out (bv b')
  have f2 := (Fr.refl (fun b => b = w.heap.size) w1).setCell (p := ⟨w.heap.size, j, none⟩) (.inr rfl) (bv b')
  have F2 := Lib.hid (F1.out.trans f2 (fun b hb e => by omega)).drew
  have hset : (((s.good k).map bv).toArray.setIfInBounds j (bv b')) = (((s.good k).set j b').map bv).toArray := by
    rw [List.setIfInBounds_toArray, ← List.map_set]
  rw [hset] at g2
  have hgl : ((s.good k).set j b').length = 8192 := by rw [List.length_set]; exact HK
  have HBY : Hid (BytesAt F (w1.setCell ⟨w.heap.size, j, none⟩ (bv b')).drew (.slice (some ⟨w.heap.size, 0, none⟩) 8192 8192) ((s.good k).set j b')) := by
    refine Lib.hid (bytesAt_row.2 ?_)
    have := Row.ofBlock (F := F) (n := 8192) (size := 1) (show (w1.setCell ⟨w.heap.size, j, none⟩ (bv b')).drew.heap[w.heap.size]? = _ from g2) (hF _ (by omega)) (by unfold maxLen; omega) (by simp [HK])
    rw [hgl]
    simpa using this
  clear g2 f2
  generalize (w1.setCell ⟨w.heap.size, j, none⟩ (bv b')).drew = w2 at *
  obtain ⟨M, m1, m2⟩ := HD.out.kept
  have HM := Lib.hid (m1.fr F2.out (fun h => h))
  have M2 := Lib.hid m2
  have k1 := F2.out.cell0 (blk_cell HD.out.blk 1 rfl)
  have k2 := F2.out.cell0 (blk_cell HD.out.blk 2 rfl)
  clear m1 m2 h1' h2' cb zb
  go_wp2_with (refine wpl_update rfl Try.underlying103 Try.underlying3 _ _ _ rfl (m := m) (k := (k : Int)) (v := .slice (some ⟨w.heap.size, 0, none⟩) 8192 8192) rfl rfl rfl HM.out ?_; intro w3 n3 f3; have k2 := f3.cell k2 hdm)
  have N3 := Lib.hid n3
  have F3 := Lib.hid f3
  clear n3 f3 k1
  go_loopw [9, 52] (fun _ i wr => i = .int .i64 0 ∧ w3 = wr) (fun _ _ _ => 0)
  case atStart => exact ⟨rfl, rfl⟩
  case round =>
    obtain ⟨rfl, rfl⟩ := hrel
    go_wp2
    go_ret
    have F03 : Fr (fun b => b = m) w w3 := (F2.out.mono (fun _ _ h => h.elim)).trans F3.out (fun _ _ h => h)
    have hFm : ∀ b, F b → ¬ b = m := fun b hb h => hm (h ▸ hb)
    refine ⟨rfl, (s.good k).set j b', oneoff_set (by omega) hne, ⟨F03.blk HD.out.blk hdm, ?_, ?_, HD.out.small⟩, F03⟩
    · exact KeptAt.set (M2.out.imp fun _ _ h => ⟨h.1, h.2.1.fr F03 hFm, h.2.2⟩) N3.out (HBY.out.fr F3.out hFm) (by omega)
    · obtain ⟨xs, o1, o2⟩ := HD.out.opn
      exact ⟨xs, own_kept o1 F03 hom, o2.fr F03 (fun b hb h => hm (h ▸ hb))⟩
end Go.Proofs.Ytcmicdcikechkaa
end
section
namespace Go.H
end Go.H
end
section
namespace Go.Proofs.Ytcmicdcikechkaa
open Go.RowKit Go.H
set_option maxHeartbeats 2000000
set_option maxRecDepth 100000
structure InnerOpen (c : Nat → Nat) (qn rn : Nat) (w : World) (pg : Nat → Option Bs) (N d n : Nat) (l : List KV) (ks : List T) : Prop where
  ex : ∃ lv kv xs kvs, w.heap[n]? = some (.cells #[.int .i64 0, lv, kv] 80 (0, 0)) ∧ w.ownsRow 0 62 2 lv l.length xs ∧ ItemCells (Dt c) w xs l ∧ w.ownsRow 0 20 1 kv kvs.length kvs ∧ All2 (Rep c rn w pg N False d) ks kvs ∧
    c n = qn ∧ (∀ b, lv.ownBlock = some b → c b = qn ∧ b ≠ n) ∧ (∀ b, kv.ownBlock = some b → c b = qn ∧ b ≠ n ∧ ¬ lv.ownBlock = some b)
variable {c c' : Nat → Nat} {qn rn : Nat} {w w' : World} {pg : Nat → Option Bs} {N d n : Nat} {l : List KV} {ks : List T}
theorem InnerOpen.fr {C : Nat → Prop} (h : InnerOpen c qn rn w pg N d n l ks) (hf : Fr C w w') (hC : ∀ b, C b → c b ≠ qn ∧ c b ≠ rn ∧ c b ≠ 0) : InnerOpen c qn rn w' pg N d n l ks := by
  obtain ⟨lv, kv, xs, kvs, a1, a2, a3, a4, a5, a6, a7, a8⟩ := h
  exact ⟨lv, kv, xs, kvs, hf.blk a1 (fun e => (hC _ e).1 a6), own_kept a2 hf (fun b e k => (hC _ k).1 (a7 b e).1), a3.fr hf (fun b e k => (hC _ k).2.2 e), own_kept a4 hf (fun b e k => (hC _ k).1 (a8 b e).1), a5.imp fun _ _ h => Rep.fr hf (fun b k => (hC _ k).2.1) (fun b k => (hC _ k).2.2) h, a6, a7, a8⟩
theorem InnerOpen.lt (h : InnerOpen c qn rn w pg N d n l ks) : n < w.heap.size := by
  obtain ⟨lv, kv, xs, kvs, a1, _⟩ := h
  exact (Array.getElem?_eq_some_iff.1 a1).1
theorem InnerOpen.ag (h : InnerOpen c qn rn w pg N d n l ks) (ha : Ag w.heap.size c c') : InnerOpen c' qn rn w pg N d n l ks := by
  have hl := h.lt
  obtain ⟨lv, kv, xs, kvs, a1, a2, a3, a4, a5, a6, a7, a8⟩ := h
  exact ⟨lv, kv, xs, kvs, a1, a2, a3.mono (fun b e k => (ha b k).trans e), a4, a5.imp fun _ _ h => Rep.ag ha h, (ha _ hl).trans a6, fun b e => ⟨(ha _ (a2.lt b e).2).trans (a7 b e).1, (a7 b e).2⟩, fun b e => ⟨(ha _ (a4.lt b e).2).trans (a8 b e).1, (a8 b e).2⟩⟩
theorem All2.cl0 {X : Prop} {b o : Nat} {kvs : List Value} (h : All2 (Rep c rn w pg N X d) ks kvs) (hb : w.heap.size ≤ b) : sumN (ks.map (cnt d (.cl b o))) = 0 := sumN_zero fun a ha => by
  obtain ⟨x, hx, rfl⟩ := List.mem_map.1 ha
  obtain ⟨v2, hv⟩ := All2.memR h hx
  exact Rep.cl0 hb hv
structure AccL (n0 d m : Nat) (ks ks' : List T) (gone gone' : List Nat) : Prop where
  pg : ∀ id, sumN (ks'.map (cnt d (.pg id))) + gone'.count id = sumN (ks.map (cnt d (.pg id))) + gone.count id
  cl : ∀ b o, sumN (ks'.map (cnt d (.cl b o))) ≤ if b < n0 then sumN (ks.map (cnt d (.cl b o))) else 1
  dirty : sumN (ks'.map (dirtyN d)) ≤ sumN (ks.map (dirtyN d)) + m
theorem AccL.trans {n0 n1 m m' : Nat} {ks2 ks3 : List T} {g1 g2 g3 : List Nat} (h : AccL n0 d m ks ks2 g1 g2) (k : AccL n1 d m' ks2 ks3 g2 g3) (hn : n0 ≤ n1) : AccL n0 d (m + m') ks ks3 g1 g3 := by
  refine ⟨fun id => (k.pg id).trans (h.pg id), fun b o => ?_, by have := h.dirty; have := k.dirty; omega⟩
  have h1 := h.cl b o
  have h2 := k.cl b o
  split at h1 <;> split at h2 <;> split <;> omega
theorem AccL.refl {n0 : Nat} {g : List Nat} (hz : ∀ b o, n0 ≤ b → sumN (ks.map (cnt d (.cl b o))) = 0) : AccL n0 d 0 ks ks g g := ⟨fun _ => rfl, fun b o => by split; exact Nat.le_refl _; rw [hz b o (by omega)]; omega, Nat.le_refl _⟩
theorem AccL.le {n0 m m' : Nat} {ks' : List T} {g g' : List Nat} (h : AccL n0 d m ks ks' g g') (hm : m ≤ m') : AccL n0 d m' ks ks' g g' := ⟨h.pg, h.cl, Nat.le_trans h.dirty (by omega)⟩
theorem AccL.set {n0 i : Nat} {ta : T} {g g' : List Nat} (hi : i < ks.length) (h : Acc n0 d ks[i] [ta] g g') (hz : ∀ b o, n0 ≤ b → sumN (ks.map (cnt d (.cl b o))) = 0) : AccL n0 d (2 * d) ks (ks.set i ta) g g' := by
  refine ⟨fun id => ?_, fun b o => ?_, ?_⟩
  · have h1 := h.pg id
    have h2 := sum_set_map (ta := ta) hi (cnt d (.pg id))
    simp only [List.map_cons, List.map_nil, sumN, Nat.add_zero] at h1
    omega
  · have h1 := h.cl b o
    have h2 := sum_set_map (ta := ta) hi (cnt d (.cl b o))
    have h3 := hz b o
    have h5 := sumN_mem (List.mem_map_of_mem (f := cnt d (.cl b o)) (List.getElem_mem hi))
    simp only [List.map_cons, List.map_nil, sumN, Nat.add_zero] at h1
    split at h1 <;> split <;> first | omega | (have := h3 (by omega); omega)
  · have h1 := h.dirty
    have h2 := sum_set_map (ta := ta) hi (dirtyN d)
    simp only [List.map_cons, List.map_nil, sumN, Nat.add_zero] at h1
    omega
end Go.Proofs.Ytcmicdcikechkaa
end
section
namespace Go.Proofs.Ytcmicdcikechkaa
open Go.RowKit Go.H
set_option maxHeartbeats 2000000
set_option maxRecDepth 100000
end Go.Proofs.Ytcmicdcikechkaa
end
section
namespace Go.Proofs.Ytcmicdcikechkaa
open Go.RowKit Go.H
set_option maxHeartbeats 2000000
set_option maxRecDepth 100000
theorem NodeAt.kids {F : Nat → Prop} {w : World} {n g o id : Nat} {l : List KV} {kvs : List Value} {v : Value} (h : NodeAt F w n g o id l kvs v) (hk : kvs ≠ []) : v = wInner n ∧ ∃ cp, w.cell? ⟨n, 2, none⟩ = some (.slice (some ⟨g, o, none⟩) kvs.length cp) ∧ Row (fun _ => True) w (.slice (some ⟨g, o, none⟩) kvs.length cp) kvs.length 1 kvs := by
  obtain ⟨lv, h0, h1, h2, ⟨e, _⟩ | ⟨e1, e2, cp, e3, e4, e5, e6⟩⟩ := h
  · exact absurd e hk
  · exact ⟨e2, cp, e3, ⟨_, _, rfl, e4, e5, by simp, fun _ => ⟨g, o, rfl, trivial, e6⟩⟩⟩
end Go.Proofs.Ytcmicdcikechkaa
end
section
namespace Go.Proofs.Ytcmicdcikechkaa
open Go.RowKit Go.H
set_option maxHeartbeats 2000000
set_option maxRecDepth 100000
variable {c : Nat → Nat} {rn : Nat} {w : World} {pg : Nat → Option Bs} {N d : Nat}
structure Pair2 (c : Nat → Nat) (rn : Nat) (w : World) (pg : Nat → Option Bs) (N d : Nat) (vl vr : Value) (l1 l2 : List KV) (ks1 ks2 : List T) : Prop where
  left : ∃ n g o, Rep c rn w pg N False (d + 1) (.node (.mem n g o) l1 ks1) vl
  right : ∃ n g o, Rep c rn w pg N False (d + 1) (.node (.mem n g o) l2 ks2) vr
  k0 : d = 0 → ks1 = [] ∧ ks2 = []
  k1 : ¬ d = 0 → ks1 ≠ [] ∧ ks2 ≠ []
  len : l1.length ≤ 10 ∧ l2.length ≤ 10 ∧ ks1.length ≤ 10 ∧ ks2.length ≤ 10
theorem Pair2.fr0 {vl vr : Value} {l1 l2 : List KV} {ks1 ks2 : List T} {w' : World} (h : Pair2 c rn w pg N d vl vr l1 l2 ks1 ks2) (hf : Fr C0 w w') : Pair2 c rn w' pg N d vl vr l1 l2 ks1 ks2 := by
  obtain ⟨⟨n1, g1, o1, a1⟩, ⟨n2, g2, o2, a2⟩, a3, a4, a5⟩ := h
  exact ⟨⟨n1, g1, o1, a1.fr0 hf⟩, ⟨n2, g2, o2, a2.fr0 hf⟩, a3, a4, a5⟩
theorem Pair2.fr {C : Nat → Prop} {vl vr : Value} {l1 l2 : List KV} {ks1 ks2 : List T} {w' : World} (h : Pair2 c rn w pg N d vl vr l1 l2 ks1 ks2) (hf : Fr C w w') (h1 : ∀ b, C b → c b ≠ rn) (h2 : ∀ b, C b → c b ≠ 0) : Pair2 c rn w' pg N d vl vr l1 l2 ks1 ks2 := by
  obtain ⟨⟨n1, g1, o1, a1⟩, ⟨n2, g2, o2, a2⟩, a3, a4, a5⟩ := h
  exact ⟨⟨n1, g1, o1, Rep.fr hf h1 h2 a1⟩, ⟨n2, g2, o2, Rep.fr hf h1 h2 a2⟩, a3, a4, a5⟩
theorem Pair2.ag {c' : Nat → Nat} {vl vr : Value} {l1 l2 : List KV} {ks1 ks2 : List T} (h : Pair2 c rn w pg N d vl vr l1 l2 ks1 ks2) (ha : Ag w.heap.size c c') : Pair2 c' rn w pg N d vl vr l1 l2 ks1 ks2 := by
  obtain ⟨⟨n1, g1, o1, a1⟩, ⟨n2, g2, o2, a2⟩, a3, a4, a5⟩ := h
  exact ⟨⟨n1, g1, o1, Rep.ag ha a1⟩, ⟨n2, g2, o2, Rep.ag ha a2⟩, a3, a4, a5⟩
end Go.Proofs.Ytcmicdcikechkaa
end
section
namespace Go.Proofs.Ytcmicdcikechkaa
open Go.RowKit Go.H
set_option maxHeartbeats 2000000
set_option maxRecDepth 100000
variable {c : Nat → Nat} {rn : Nat} {w : World} {pg : Nat → Option Bs} {N d : Nat}
structure Shared (c : Nat → Nat) (rn : Nat) (w0 w : World) (pg : Nat → Option Bs) (N d m : Nat) (L : List KV) (K : List T) (va vb kw vw : Value) (c' : Nat → Nat) : Prop where
  ag : Ag w0.heap.size c c'
  cl : Cl w c'
  ex : ∃ na nb g, w0.heap.size ≤ na ∧ w0.heap.size ≤ nb ∧ w0.heap.size ≤ g ∧ na ≠ nb ∧ g ≠ na ∧ g ≠ nb ∧ Rep c' rn w pg N False (d + 1) (.node (.mem na g 0) (L.take m) (K.take (m + 1))) va ∧ Rep c' rn w pg N False (d + 1) (.node (.mem nb g (m + 1)) (L.drop (m + 1)) (K.drop (m + 1))) vb
  mid : ∃ y, L[m]? = some y ∧ BytesAt (Dt c') w kw y.1 ∧ BytesAt (Dt c') w vw y.2
theorem Row.cap {F : Nat → Prop} {w : World} {A : Option Addr} {n c c2 size : Nat} {xs : List Value} (h : Row F w (.slice A n c) n size xs) (h1 : n ≤ c2) (h2 : c2 ≤ maxLen) : Row F w (.slice A n c2) n size xs := by
  obtain ⟨_, _, e, _, _, h3, h4⟩ := h
  injection e with e1 _ e3
  subst e1
  exact ⟨_, _, rfl, h1, h2, h3, h4⟩
end Go.Proofs.Ytcmicdcikechkaa
end
section
namespace Go.Proofs.Ytcmicdcikechkaa
open Go.RowKit Go.H
set_option maxHeartbeats 2000000
set_option maxRecDepth 100000
variable {d a : Nat} {ks : List T}
end Go.Proofs.Ytcmicdcikechkaa
end
section
namespace Go.Proofs.Ytcmicdcikechkaa
open Go.RowKit Go.H
set_option maxHeartbeats 2000000
set_option maxRecDepth 100000
def T.isMem' (t : T) : Prop := ∃ n g o, t.nm = .mem n g o
end Go.Proofs.Ytcmicdcikechkaa
end
