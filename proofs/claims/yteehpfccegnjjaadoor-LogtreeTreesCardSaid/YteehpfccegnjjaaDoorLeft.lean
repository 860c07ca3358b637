/-
  The contracts of math/bits.Len64, Len, logtree.left and the reference's Left.
-/
import Derived.Test.YteehpfccegnjjaaDoorRef
import Derived.Lib.Strings
import Derived.Lib.Slices
import Derived.Lib.Small
import Derived.Lib.Walk
import Derived.Lib.BitFns
namespace Go.Proofs.YteehpfccegnjjaaDoor
open Go Go.RowKit
/-- The largest power of two below n. -/
def lp (n : Nat) : Nat := 2 ^ (n - 1).log2
set_option maxRecDepth 100000 in
set_option maxHeartbeats 4000000 in
theorem leftR_any (n : Nat) (h2 : 2 ≤ n) (hn : n ≤ 1048576) (w : World) :
    Calls Tryd.prog 49 #[.int .i64 n] w fun e w' => e = .returned (.int .i64 (lp n)) ∧ w = w' := by
  go_enter Tryd.func49, Tryd.ntmps49
  go_wp2_with fail
  go_loopw [3] (fun v wr => ∃ k : Nat, v = .int .i64 (2 ^ k : Nat) ∧ 2 ^ k < n ∧ wr = w) (fun v _ => 1048576 - (intOf v).toNat)
  case atStart => exact ⟨0, rfl, by omega, rfl⟩
  case round =>
    obtain ⟨k, rfl, hk, rfl⟩ := hrel
    generalize hp : 2 ^ k = p at hk
    have Hp := Lib.hid hp; clear hp
    have hp0 : 1 ≤ p := by rw [← Hp.out]; exact Nat.one_le_two_pow
    by_cases hlt : 2 * p < n
    · go_wp2_with fail
      go_roundw
      case rel => exact ⟨k + 1, by rw [Nat.pow_succ, Hp.out]; go_num, by rw [Nat.pow_succ, Hp.out]; omega, trivial⟩
      case measure => simp [intOf]; omega
    · have e : lp n = p := by
        rw [← Hp.out, lp]
        congr 1
        rw [Nat.log2_eq_iff (by omega)]
        rw [Nat.pow_succ, Hp.out]; omega
      go_wp2_with fail
      go_ret
      exact ⟨by rw [e]; rfl, rfl⟩
theorem len8_nat (x : Int) (h0 : 0 ≤ x) (h1 : x ≤ 255) : Lib.len8 x = (Lib.bitLen x.toNat : Int) ∧ Lib.bitLen x.toNat ≤ 8 := ⟨Lib.len8_of x h0 h1, Lib.bitLen_le8' x h0 h1⟩
set_option maxHeartbeats 4000000 in
set_option maxRecDepth 100000 in
theorem len64_any (x : Int) (w : World) (h0 : 0 ≤ x) (h1 : x < 1048576) :
    Calls Tryd.prog 76 #[.int .u64 x] w fun e w' => e = .returned (.int .i64 (Lib.bitLen x.toNat)) ∧ w' = w := by
  have hs := Lib.len8tab_size
  by_cases c1 : 65536 ≤ x
  · have e := Lib.bitLen_shift16 x.toNat (by omega) (by omega)
    have f1 : 0 ≤ x / 65536 := by omega
    have f2 : x / 65536 ≤ 255 := by omega
    have f3 : x / 65536 < 256 := by omega
    have l := len8_nat (x / 65536) f1 f2
    rw [show (x / 65536).toNat = x.toNat / 65536 by omega] at l
    rw [e]
    generalize Lib.bitLen (x.toNat / 65536) = b at *
    go_enter Tryd.func76, Tryd.ntmps76
    go_wp2
    go_ret
    exact ⟨rfl, rfl⟩
  · by_cases c2 : 256 ≤ x
    · have e := Lib.bitLen_shift8 x.toNat (by omega) (by omega)
      have f1 : 0 ≤ x / 256 := by omega
      have f2 : x / 256 ≤ 255 := by omega
      have l := len8_nat (x / 256) f1 f2
      rw [show (x / 256).toNat = x.toNat / 256 by omega] at l
      rw [e]
      generalize Lib.bitLen (x.toNat / 256) = b at *
      go_enter Tryd.func76, Tryd.ntmps76
      go_wp2
      go_ret
      exact ⟨rfl, rfl⟩
    · have f2 : x ≤ 255 := by omega
      have l := len8_nat x h0 f2
      generalize Lib.bitLen x.toNat = b at *
      go_enter Tryd.func76, Tryd.ntmps76
      go_wp2
      go_ret
      exact ⟨rfl, rfl⟩
theorem len_any (x : Int) (w : World) (h0 : 0 ≤ x) (h1 : x < 1048576) :
    Calls Tryd.prog 72 #[.int .u64 x] w fun e w' => e = .returned (.int .i64 (Lib.bitLen x.toNat)) ∧ w' = w := by
  go_enter Tryd.func72, Tryd.ntmps72
  go_wp2_with (go_at_call 76; refine (len64_any x _ h0 h1).mono ?_; rintro e w' ⟨rfl, rfl⟩)
  go_ret
  exact ⟨rfl, rfl⟩
theorem bitLen_log2 (x : Nat) (h0 : x ≠ 0) (hx : x < 18446744073709551616) : Lib.bitLen x = x.log2 + 1 := by
  induction x using Nat.strongRecOn with
  | _ x ih =>
    rw [Lib.bitLen_half x h0 hx, Nat.log2_def]
    by_cases h2 : 2 ≤ x
    · rw [if_pos h2, ih (x / 2) (by omega) (by omega) (by omega)]; omega
    · obtain rfl : x = 1 := by omega
      rfl
theorem lp_lt (n : Nat) (h : 2 ≤ n) : lp n < n := by
  have := Nat.log2_self_le (n := n - 1) (by omega)
  unfold lp; omega
theorem lp_pos (n : Nat) : 1 ≤ lp n := Nat.one_le_two_pow
theorem wrap64_nat (p : Nat) (h : p < 9223372036854775808) : wrap64 (p : Int) = (p : Int) := by
  unfold wrap64
  omega
theorem log2_le_20 (m : Nat) (h : m < 1048576) : m.log2 < 20 := by
  by_cases h0 : m = 0
  · subst h0; decide
  · exact (Nat.log2_lt h0).2 h
set_option maxRecDepth 100000 in
set_option maxHeartbeats 4000000 in
theorem left_any (n : Nat) (h2 : 2 ≤ n) (hn : n ≤ 1048576) (w : World) :
    Calls Tryd.prog 66 #[.int .i64 n] w fun e w' => e = .returned (.int .i64 (lp n)) ∧ w = w' := by
  have hL : Lib.bitLen ((n : Int) - 1).toNat = (n - 1).log2 + 1 := by
    rw [show ((n : Int) - 1).toNat = n - 1 by omega]; exact bitLen_log2 _ (by omega) (by omega)
  have h20 := log2_le_20 (n - 1) (by omega)
  have hp : lp n = 2 ^ (n - 1).log2 := rfl
  have hlt := lp_lt n h2
  generalize lp n = p at *
  generalize (n - 1).log2 = q at *
  go_enter Tryd.func66, Tryd.ntmps66
  go_wp2_with (go_at_call 72; refine (len_any ((n : Int) - 1) _ (by omega) (by omega)).mono ?_; rintro e w' ⟨rfl, rfl⟩; rw [hL])
  go_ret
  refine ⟨?_, rfl⟩
  show Ending.returned (Value.int .i64 (wrap64 ((2 : Int) ^ q))) = _
  rw [show ((2 : Int) ^ q) = ((p : Nat) : Int) by rw [hp]; simp]
  rw [wrap64_nat p (by omega)]
end Go.Proofs.YteehpfccegnjjaaDoor
