/-
  Contracts of the rotations of 32-bit words, in sha256 and in the reference.
-/
import Derived.Test.YteehpfccegnjjaaDoorProg
import Derived.Test.YteehpfccegnjjaaDoorWord
import Derived.Test.YteehpfccegnjjaaDoorSha
import Derived.WalkSpells
import Derived.Deep.QuietTactic
import Derived.BigQuiet
namespace Go.Proofs.YteehpfccegnjjaaDoor
open Go Go.RowKit

theorem ret_int {k : IntKind} {a b : Int} (h : a = b) : Ending.returned (.int k a) = .returned (.int k b) := by rw [h]

theorem and31_2 : bits BinOp.and IntKind.u64 (IntKind.u64.wrap (-2)) 31 = 30 := by decide
theorem and31_6 : bits BinOp.and IntKind.u64 (IntKind.u64.wrap (-6)) 31 = 26 := by decide
theorem and31_7 : bits BinOp.and IntKind.u64 (IntKind.u64.wrap (-7)) 31 = 25 := by decide
theorem and31_11 : bits BinOp.and IntKind.u64 (IntKind.u64.wrap (-11)) 31 = 21 := by decide
theorem and31_13 : bits BinOp.and IntKind.u64 (IntKind.u64.wrap (-13)) 31 = 19 := by decide
theorem and31_17 : bits BinOp.and IntKind.u64 (IntKind.u64.wrap (-17)) 31 = 15 := by decide
theorem and31_18 : bits BinOp.and IntKind.u64 (IntKind.u64.wrap (-18)) 31 = 14 := by decide
theorem and31_19 : bits BinOp.and IntKind.u64 (IntKind.u64.wrap (-19)) 31 = 13 := by decide
theorem and31_22 : bits BinOp.and IntKind.u64 (IntKind.u64.wrap (-22)) 31 = 10 := by decide
theorem and31_25 : bits BinOp.and IntKind.u64 (IntKind.u64.wrap (-25)) 31 = 7 := by decide
attribute [local go_sem] and31_2 and31_6 and31_7 and31_11 and31_13 and31_17 and31_18 and31_19 and31_22 and31_25

/-- The counts by which sha256 turns a word. -/
def Turns (n : Int) : Prop := n ∈ ([2, 6, 7, 11, 13, 17, 18, 19, 22, 25] : List Int)
theorem tn2 : Turns 2 := by simp [Turns]
theorem tn6 : Turns 6 := by simp [Turns]
theorem tn7 : Turns 7 := by simp [Turns]
theorem tn11 : Turns 11 := by simp [Turns]
theorem tn13 : Turns 13 := by simp [Turns]
theorem tn17 : Turns 17 := by simp [Turns]
theorem tn18 : Turns 18 := by simp [Turns]
theorem tn19 : Turns 19 := by simp [Turns]
theorem tn22 : Turns 22 := by simp [Turns]
theorem tn25 : Turns 25 := by simp [Turns]

set_option maxHeartbeats 400000 in
/-- sha256.right turns a word to the right. -/
theorem right_any (x : UInt32) (n : Int) (hn : Turns n) (w : World) :
    Calls Tryd.prog 79 #[.int .i64 n, .int .u32 x.toNat] w fun e w' => e = .returned (.int .u32 (Sha.rotr (UInt32.ofNat n.toNat) x).toNat) ∧ w' = w := by
  simp only [Turns, List.mem_cons, List.not_mem_nil, or_false] at hn
  rcases hn with rfl | rfl | rfl | rfl | rfl | rfl | rfl | rfl | rfl | rfl
  all_goals
    go_enter Tryd.func79, Tryd.ntmps79
    go_wp2
    go_ret
    refine ⟨ret_int ?_, rfl⟩
    simp only [w_or, w_shl7, w_shl10, w_shl13, w_shl14, w_shl15, w_shl19, w_shl21, w_shl25, w_shl26, w_shl30, w_shr2, w_shr6, w_shr7, w_shr11, w_shr13, w_shr17, w_shr18, w_shr19, w_shr22, w_shr25]
    rfl

set_option maxHeartbeats 400000 in
/-- The reference's turn does the same. -/
theorem turn_any (x : UInt32) (n : Int) (hn : Turns n) (w : World) :
    Calls Tryd.prog 71 #[.int .i64 n, .int .u32 x.toNat] w fun e w' => e = .returned (.int .u32 (Sha.rotr (UInt32.ofNat n.toNat) x).toNat) ∧ ∃ m, w' = w.drewN m := by
  simp only [Turns, List.mem_cons, List.not_mem_nil, or_false] at hn
  rcases hn with rfl | rfl | rfl | rfl | rfl | rfl | rfl | rfl | rfl | rfl
  all_goals
    go_enter Tryd.func71, Tryd.ntmps71
    go_wp2
    go_quiet (fail)
    go_wp2
    go_ret
    refine ⟨ret_int ?_, _, rfl⟩
    simp only [w_or, w_shl7, w_shl10, w_shl13, w_shl14, w_shl15, w_shl19, w_shl21, w_shl25, w_shl26, w_shl30, w_shr2, w_shr6, w_shr7, w_shr11, w_shr13, w_shr17, w_shr18, w_shr19, w_shr22, w_shr25]
    rw [UInt32.or_comm]; rfl
end Go.Proofs.YteehpfccegnjjaaDoor
