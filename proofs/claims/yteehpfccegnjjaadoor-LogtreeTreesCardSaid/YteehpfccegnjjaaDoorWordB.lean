/-
  A word put together out of four bytes by sums is the word put together by '|'.
-/
import Derived.Test.YteehpfccegnjjaaDoorWord
namespace Go.Proofs.YteehpfccegnjjaaDoor
open Go Go.RowKit
/-- Four bytes as a word, put together by sums. -/
theorem word_add (b0 b1 b2 b3 : UInt8) : (b0.toUInt32 <<< 24) + (b1.toUInt32 <<< 16) + (b2.toUInt32 <<< 8) + b3.toUInt32 = (b0.toUInt32 <<< 24) ||| (b1.toUInt32 <<< 16) ||| (b2.toUInt32 <<< 8) ||| b3.toUInt32 := by
  have h0 := b0.toNat_lt
  have h1 := b1.toNat_lt
  have h2 := b2.toNat_lt
  have h3 := b3.toNat_lt
  have e0 : (b0.toUInt32 <<< 24).toNat = b0.toNat <<< 24 := by
    rw [UInt32.toNat_shiftLeft, Nat.mod_eq_of_lt]; rfl
    simp [Nat.shiftLeft_eq]; omega
  have e1 : (b1.toUInt32 <<< 16).toNat = b1.toNat <<< 16 := by
    rw [UInt32.toNat_shiftLeft, Nat.mod_eq_of_lt]; rfl
    simp [Nat.shiftLeft_eq]; omega
  have e2 : (b2.toUInt32 <<< 8).toNat = b2.toNat <<< 8 := by
    rw [UInt32.toNat_shiftLeft, Nat.mod_eq_of_lt]; rfl
    simp [Nat.shiftLeft_eq]; omega
  have e3 : b3.toUInt32.toNat = b3.toNat := rfl
  apply UInt32.toNat_inj.1
  rw [UInt32.toNat_or, UInt32.toNat_or, UInt32.toNat_or, e0, e1, e2, e3]
  rw [← Nat.shiftLeft_add_eq_or_of_lt (show b1.toNat <<< 16 < 2 ^ 24 by rw [Nat.shiftLeft_eq]; omega)]
  rw [show b0.toNat <<< 24 + b1.toNat <<< 16 = (b0.toNat <<< 8 + b1.toNat) <<< 16 by simp only [Nat.shiftLeft_eq]; omega]
  rw [← Nat.shiftLeft_add_eq_or_of_lt (show b2.toNat <<< 8 < 2 ^ 16 by rw [Nat.shiftLeft_eq]; omega)]
  rw [show (b0.toNat <<< 8 + b1.toNat) <<< 16 + b2.toNat <<< 8 = ((b0.toNat <<< 8 + b1.toNat) <<< 8 + b2.toNat) <<< 8 by simp only [Nat.shiftLeft_eq]; omega]
  rw [← Nat.shiftLeft_add_eq_or_of_lt (show b3.toNat < 2 ^ 8 by omega)]
  simp only [UInt32.toNat_add, e0, e1, e2, e3, Nat.shiftLeft_eq]
  omega
theorem word_raw2 (b0 b1 b2 b3 : UInt8) :
    ((b0.toNat : Int) % (4294967296 : Int) * (16777216 : Int) + (b1.toNat : Int) % (4294967296 : Int) * (65536 : Int) + (b2.toNat : Int) % (4294967296 : Int) * (256 : Int) + (b3.toNat : Int)) % (4294967296 : Int) =
    (((b0.toUInt32 <<< 24) ||| (b1.toUInt32 <<< 16) ||| (b2.toUInt32 <<< 8) ||| b3.toUInt32).toNat : Int) := by
  rw [← word_add]
  have h0 := b0.toNat_lt
  have h1 := b1.toNat_lt
  have h2 := b2.toNat_lt
  have h3 := b3.toNat_lt
  have e0 : (b0.toUInt32 <<< 24).toNat = b0.toNat * 16777216 := by
    rw [UInt32.toNat_shiftLeft, Nat.mod_eq_of_lt, Nat.shiftLeft_eq]; rfl
    simp [Nat.shiftLeft_eq]; omega
  have e1 : (b1.toUInt32 <<< 16).toNat = b1.toNat * 65536 := by
    rw [UInt32.toNat_shiftLeft, Nat.mod_eq_of_lt, Nat.shiftLeft_eq]; rfl
    simp [Nat.shiftLeft_eq]; omega
  have e2 : (b2.toUInt32 <<< 8).toNat = b2.toNat * 256 := by
    rw [UInt32.toNat_shiftLeft, Nat.mod_eq_of_lt, Nat.shiftLeft_eq]; rfl
    simp [Nat.shiftLeft_eq]; omega
  have e3 : b3.toUInt32.toNat = b3.toNat := rfl
  simp only [UInt32.toNat_add, e0, e1, e2, e3]
  omega
end Go.Proofs.YteehpfccegnjjaaDoor
