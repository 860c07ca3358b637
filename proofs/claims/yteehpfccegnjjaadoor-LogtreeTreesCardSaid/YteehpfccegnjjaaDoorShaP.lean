/-
  The padding of a text, and its digest: plain functions, and how a text is taken block by block.
-/
import Derived.Test.YteehpfccegnjjaaDoorSha
namespace Go.Proofs.YteehpfccegnjjaaDoor
namespace Sha

/-- How many zeros stand behind the byte 128. -/
def zeros (n : Nat) : Nat := (119 - n % 64) % 64
/-- The eight bytes of a number, the greatest first. -/
def be64 (n : Nat) : List UInt8 := [UInt8.ofNat (n >>> 56), UInt8.ofNat (n >>> 48), UInt8.ofNat (n >>> 40), UInt8.ofNat (n >>> 32), UInt8.ofNat (n >>> 24), UInt8.ofNat (n >>> 16), UInt8.ofNat (n >>> 8), UInt8.ofNat n]
/-- What stands behind a text of n bytes. -/
def tail (n : Nat) : List UInt8 := 128 :: List.replicate (zeros n) 0 ++ be64 (8 * n)
def pad (l : List UInt8) : List UInt8 := l ++ tail l.length
/-- The state behind n blocks of a list. -/
def absorb : Nat → S8 → List UInt8 → S8
  | 0, v, _ => v
  | n + 1, v, l => absorb n (block v (l.take 64)) (l.drop 64)
/-- The bytes of a word, of a state. -/
def wb (x : UInt32) : List UInt8 := [(x >>> 24).toUInt8, (x >>> 16).toUInt8, (x >>> 8).toUInt8, x.toUInt8]
def s8b (v : S8) : List UInt8 := wb v.a ++ wb v.b ++ wb v.c ++ wb v.d ++ wb v.e ++ wb v.f ++ wb v.g ++ wb v.h
/-- The digest. -/
def sum (l : List UInt8) : List UInt8 := s8b (absorb ((pad l).length / 64) init (pad l))

theorem s8b_length (v : S8) : (s8b v).length = 32 := rfl
theorem sum_length (l : List UInt8) : (sum l).length = 32 := rfl
theorem be64_length (n : Nat) : (be64 n).length = 8 := rfl
theorem tail_length (n : Nat) : (tail n).length = zeros n + 9 := by simp [tail, be64_length]
theorem pad_length (l : List UInt8) : (pad l).length % 64 = 0 := by
  rw [pad, List.length_append, tail_length, zeros]; omega
theorem zeros_lt (n : Nat) : zeros n < 64 := by unfold zeros; omega
theorem zeros_end (n : Nat) : (n + 1 + zeros n) % 64 = 56 := by unfold zeros; omega
theorem zeros_not (n j : Nat) (h : j < zeros n) : (n + 1 + j) % 64 ≠ 56 := by unfold zeros at h; omega

theorem absorb_snoc (n : Nat) : ∀ (v : S8) (l : List UInt8), absorb (n + 1) v l = block (absorb n v l) ((l.drop (64 * n)).take 64) := by
  induction n with
  | zero => intro v l; simp [absorb]
  | succ n ih =>
    intro v l
    rw [absorb, ih, absorb]
    simp only [List.drop_drop]
    rw [show 64 + 64 * n = 64 * (n + 1) by omega]
theorem absorb_add (a b : Nat) : ∀ (v : S8) (l : List UInt8), absorb (a + b) v l = absorb b (absorb a v l) (l.drop (64 * a)) := by
  induction a with
  | zero => intro v l; simp [absorb]
  | succ a ih =>
    intro v l
    rw [show a + 1 + b = (a + b) + 1 by omega, absorb, ih, absorb]
    simp only [List.drop_drop]
    rw [show 64 + 64 * a = 64 * (a + 1) by omega]
theorem absorb_append (a : Nat) : ∀ (v : S8) (l m : List UInt8), 64 * a ≤ l.length → absorb a v (l ++ m) = absorb a v l := by
  induction a with
  | zero => intro v l m _; rfl
  | succ a ih =>
    intro v l m h
    rw [absorb, absorb, List.take_append_of_le_length (by omega), List.drop_append_of_le_length (by omega), ih _ _ _ (by simp; omega)]
/-- A text, its full blocks first, the rest with the padding behind. -/
theorem sum_parts (l : List UInt8) : sum l = s8b (absorb (((l.drop (64 * (l.length / 64))) ++ tail l.length).length / 64) (absorb (l.length / 64) init l) ((l.drop (64 * (l.length / 64))) ++ tail l.length)) := by
  have h : 64 * (l.length / 64) ≤ l.length := by omega
  have e : (pad l).length / 64 = l.length / 64 + ((l.drop (64 * (l.length / 64))) ++ tail l.length).length / 64 := by
    simp only [pad, List.length_append, List.length_drop]; omega
  rw [sum, e, absorb_add, pad, absorb_append _ _ _ _ h, List.drop_append_of_le_length h]
end Sha
end Go.Proofs.YteehpfccegnjjaaDoor
