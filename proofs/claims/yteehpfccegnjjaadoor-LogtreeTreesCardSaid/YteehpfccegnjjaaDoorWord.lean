/-
  The operations of 32-bit words and of bytes, as the walk spells them, are those of UInt32 and UInt8.
-/
import Derived.WalkKit
namespace Go.Proofs.YteehpfccegnjjaaDoor
open Go Go.RowKit

theorem wrap_u32 (n : Nat) (h : n < 4294967296) : IntKind.u32.wrap (n : Int) = (n : Int) := by
  simp [IntKind.wrap, IntKind.bits, IntKind.signed]; omega

theorem w_and (x y : UInt32) : bits .and .u32 (x.toNat : Int) (y.toNat : Int) = ((x &&& y).toNat : Int) := by
  unfold bits
  simp [IntKind.bits]
  exact wrap_u32 _ (x &&& y).toNat_lt
theorem w_or (x y : UInt32) : bits .or .u32 (x.toNat : Int) (y.toNat : Int) = ((x ||| y).toNat : Int) := by
  unfold bits
  simp [IntKind.bits]
  exact wrap_u32 _ (x ||| y).toNat_lt
theorem w_xor (x y : UInt32) : bits .xor .u32 (x.toNat : Int) (y.toNat : Int) = ((x ^^^ y).toNat : Int) := by
  unfold bits
  simp [IntKind.bits]
  exact wrap_u32 _ (x ^^^ y).toNat_lt
theorem w_add (x y : UInt32) : ((x.toNat : Int) + (y.toNat : Int)) % (4294967296 : Int) = ((x + y).toNat : Int) := by
  rw [UInt32.toNat_add]; rfl
theorem w_shl7 (x : UInt32) : (x.toNat : Int) * (128 : Int) % (4294967296 : Int) = ((x <<< 7).toNat : Int) := by
  rw [UInt32.toNat_shiftLeft, Nat.shiftLeft_eq]; rfl
theorem w_shl8 (x : UInt32) : (x.toNat : Int) * (256 : Int) % (4294967296 : Int) = ((x <<< 8).toNat : Int) := by
  rw [UInt32.toNat_shiftLeft, Nat.shiftLeft_eq]; rfl
theorem w_shl10 (x : UInt32) : (x.toNat : Int) * (1024 : Int) % (4294967296 : Int) = ((x <<< 10).toNat : Int) := by
  rw [UInt32.toNat_shiftLeft, Nat.shiftLeft_eq]; rfl
theorem w_shl13 (x : UInt32) : (x.toNat : Int) * (8192 : Int) % (4294967296 : Int) = ((x <<< 13).toNat : Int) := by
  rw [UInt32.toNat_shiftLeft, Nat.shiftLeft_eq]; rfl
theorem w_shl14 (x : UInt32) : (x.toNat : Int) * (16384 : Int) % (4294967296 : Int) = ((x <<< 14).toNat : Int) := by
  rw [UInt32.toNat_shiftLeft, Nat.shiftLeft_eq]; rfl
theorem w_shl15 (x : UInt32) : (x.toNat : Int) * (32768 : Int) % (4294967296 : Int) = ((x <<< 15).toNat : Int) := by
  rw [UInt32.toNat_shiftLeft, Nat.shiftLeft_eq]; rfl
theorem w_shl16 (x : UInt32) : (x.toNat : Int) * (65536 : Int) % (4294967296 : Int) = ((x <<< 16).toNat : Int) := by
  rw [UInt32.toNat_shiftLeft, Nat.shiftLeft_eq]; rfl
theorem w_shl19 (x : UInt32) : (x.toNat : Int) * (524288 : Int) % (4294967296 : Int) = ((x <<< 19).toNat : Int) := by
  rw [UInt32.toNat_shiftLeft, Nat.shiftLeft_eq]; rfl
theorem w_shl21 (x : UInt32) : (x.toNat : Int) * (2097152 : Int) % (4294967296 : Int) = ((x <<< 21).toNat : Int) := by
  rw [UInt32.toNat_shiftLeft, Nat.shiftLeft_eq]; rfl
theorem w_shl24 (x : UInt32) : (x.toNat : Int) * (16777216 : Int) % (4294967296 : Int) = ((x <<< 24).toNat : Int) := by
  rw [UInt32.toNat_shiftLeft, Nat.shiftLeft_eq]; rfl
theorem w_shl25 (x : UInt32) : (x.toNat : Int) * (33554432 : Int) % (4294967296 : Int) = ((x <<< 25).toNat : Int) := by
  rw [UInt32.toNat_shiftLeft, Nat.shiftLeft_eq]; rfl
theorem w_shl26 (x : UInt32) : (x.toNat : Int) * (67108864 : Int) % (4294967296 : Int) = ((x <<< 26).toNat : Int) := by
  rw [UInt32.toNat_shiftLeft, Nat.shiftLeft_eq]; rfl
theorem w_shl30 (x : UInt32) : (x.toNat : Int) * (1073741824 : Int) % (4294967296 : Int) = ((x <<< 30).toNat : Int) := by
  rw [UInt32.toNat_shiftLeft, Nat.shiftLeft_eq]; rfl
theorem w_shr2 (x : UInt32) : (x.toNat : Int) / (4 : Int) = ((x >>> 2).toNat : Int) := by
  rw [UInt32.toNat_shiftRight, Nat.shiftRight_eq_div_pow]; rfl
theorem w_shr3 (x : UInt32) : (x.toNat : Int) / (8 : Int) = ((x >>> 3).toNat : Int) := by
  rw [UInt32.toNat_shiftRight, Nat.shiftRight_eq_div_pow]; rfl
theorem w_shr6 (x : UInt32) : (x.toNat : Int) / (64 : Int) = ((x >>> 6).toNat : Int) := by
  rw [UInt32.toNat_shiftRight, Nat.shiftRight_eq_div_pow]; rfl
theorem w_shr7 (x : UInt32) : (x.toNat : Int) / (128 : Int) = ((x >>> 7).toNat : Int) := by
  rw [UInt32.toNat_shiftRight, Nat.shiftRight_eq_div_pow]; rfl
theorem w_shr8 (x : UInt32) : (x.toNat : Int) / (256 : Int) = ((x >>> 8).toNat : Int) := by
  rw [UInt32.toNat_shiftRight, Nat.shiftRight_eq_div_pow]; rfl
theorem w_shr10 (x : UInt32) : (x.toNat : Int) / (1024 : Int) = ((x >>> 10).toNat : Int) := by
  rw [UInt32.toNat_shiftRight, Nat.shiftRight_eq_div_pow]; rfl
theorem w_shr11 (x : UInt32) : (x.toNat : Int) / (2048 : Int) = ((x >>> 11).toNat : Int) := by
  rw [UInt32.toNat_shiftRight, Nat.shiftRight_eq_div_pow]; rfl
theorem w_shr13 (x : UInt32) : (x.toNat : Int) / (8192 : Int) = ((x >>> 13).toNat : Int) := by
  rw [UInt32.toNat_shiftRight, Nat.shiftRight_eq_div_pow]; rfl
theorem w_shr16 (x : UInt32) : (x.toNat : Int) / (65536 : Int) = ((x >>> 16).toNat : Int) := by
  rw [UInt32.toNat_shiftRight, Nat.shiftRight_eq_div_pow]; rfl
theorem w_shr17 (x : UInt32) : (x.toNat : Int) / (131072 : Int) = ((x >>> 17).toNat : Int) := by
  rw [UInt32.toNat_shiftRight, Nat.shiftRight_eq_div_pow]; rfl
theorem w_shr18 (x : UInt32) : (x.toNat : Int) / (262144 : Int) = ((x >>> 18).toNat : Int) := by
  rw [UInt32.toNat_shiftRight, Nat.shiftRight_eq_div_pow]; rfl
theorem w_shr19 (x : UInt32) : (x.toNat : Int) / (524288 : Int) = ((x >>> 19).toNat : Int) := by
  rw [UInt32.toNat_shiftRight, Nat.shiftRight_eq_div_pow]; rfl
theorem w_shr22 (x : UInt32) : (x.toNat : Int) / (4194304 : Int) = ((x >>> 22).toNat : Int) := by
  rw [UInt32.toNat_shiftRight, Nat.shiftRight_eq_div_pow]; rfl
theorem w_shr24 (x : UInt32) : (x.toNat : Int) / (16777216 : Int) = ((x >>> 24).toNat : Int) := by
  rw [UInt32.toNat_shiftRight, Nat.shiftRight_eq_div_pow]; rfl
theorem w_shr25 (x : UInt32) : (x.toNat : Int) / (33554432 : Int) = ((x >>> 25).toNat : Int) := by
  rw [UInt32.toNat_shiftRight, Nat.shiftRight_eq_div_pow]; rfl
/-- A byte as a word; a natural number as an int. -/
theorem w_of8 (b : UInt8) : IntKind.u32.wrap (b.toNat : Int) = (b.toUInt32.toNat : Int) := by
  rw [wrap_u32 _ (by have := b.toNat_lt; omega)]; rfl
theorem i64_nat (n : Nat) (h : n < 9223372036854775808) : IntKind.i64.wrap (n : Int) = (n : Int) := by
  simp [IntKind.wrap, IntKind.bits, IntKind.signed]; omega
theorem w_mod (b : UInt8) : (b.toNat : Int) % (4294967296 : Int) = (b.toUInt32.toNat : Int) := by
  rw [Int.emod_eq_of_lt (by omega) (by have := b.toNat_lt; omega)]; rfl
theorem i64_int (n : Int) (h : -9223372036854775808 ≤ n) (h' : n < 9223372036854775808) : IntKind.i64.wrap n = n := by
  simp [IntKind.wrap, IntKind.bits, IntKind.signed]; omega
theorem w_add4 (a b c d : UInt32) : ((a.toNat : Int) + (b.toNat : Int) + (c.toNat : Int) + (d.toNat : Int)) % (4294967296 : Int) = ((a + b + c + d).toNat : Int) := by
  simp only [UInt32.toNat_add]; omega
theorem w_add5 (a b c d e : UInt32) : ((a.toNat : Int) + (b.toNat : Int) + (c.toNat : Int) + (d.toNat : Int) + (e.toNat : Int)) % (4294967296 : Int) = ((a + b + c + d + e).toNat : Int) := by
  simp only [UInt32.toNat_add]; omega
theorem w_not (x : UInt32) : bits .xor .u32 IntKind.u32.max (x.toNat : Int) = ((~~~x).toNat : Int) := by
  have e : IntKind.u32.max = ((4294967295 : UInt32).toNat : Int) := by decide
  rw [e, w_xor]
  congr 2
/-- Four bytes as a word. -/
theorem word_raw (b0 b1 b2 b3 : UInt8) :
    bits .or .u32 (bits .or .u32 (bits .or .u32 ((b0.toNat : Int) % (4294967296 : Int) * (16777216 : Int) % (4294967296 : Int)) ((b1.toNat : Int) % (4294967296 : Int) * (65536 : Int) % (4294967296 : Int)))
      ((b2.toNat : Int) % (4294967296 : Int) * (256 : Int) % (4294967296 : Int))) ((b3.toNat : Int) % (4294967296 : Int)) =
    (((b0.toUInt32 <<< 24) ||| (b1.toUInt32 <<< 16) ||| (b2.toUInt32 <<< 8) ||| b3.toUInt32).toNat : Int) := by
  simp only [w_mod, w_shl24, w_shl16, w_shl8, w_or]
end Go.Proofs.YteehpfccegnjjaaDoor
