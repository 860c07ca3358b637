/-
  Plain laws of the extension path.
-/
import Derived.Test.YteehpfccegnjjaaDoorInc
import Derived.Test.YteehpfccegnjjaaDoorExtS
namespace Go.Proofs.YteehpfccegnjjaaDoor
open Go Go.RowKit
/-- The extension path of the leaves from one up to another, of which those before m are old. -/
def pexn (ds : List (List UInt8)) (m fr to : Nat) (whole : Bool) : List (List UInt8) :=
  if m = to then (if whole then [] else [mroot (seg ds fr to)])
  else if 2 ≤ to - fr then
    if m ≤ fr + lp (to - fr) then pexn ds m fr (fr + lp (to - fr)) whole ++ [mroot (seg ds (fr + lp (to - fr)) to)]
    else pexn ds m (fr + lp (to - fr)) to false ++ [mroot (seg ds fr (fr + lp (to - fr)))]
  else []
termination_by to - fr
decreasing_by
  · have := lp_lt (to - fr) ‹_›; omega
  · have := lp_pos (to - fr); omega
theorem lp_same (m n : Nat) (h : lp n < m) (hn : m ≤ n) : lp m = lp n := by
  have h2 : 2 ≤ n := by
    have := lp_pos n; omega
  have h4 : n - 1 < 2 ^ ((n - 1).log2 + 1) := Nat.lt_log2_self
  have h0 : 1 ≤ lp n := lp_pos n
  have h3 : (m - 1).log2 = (n - 1).log2 := by
    unfold lp at h h0
    exact (Nat.log2_eq_iff (by omega)).2 ⟨by omega, by omega⟩
  unfold lp
  rw [h3]
theorem pexn_all (ds : List (List UInt8)) (hall : ∀ d ∈ ds, d.length = 32) (N : Nat) : ∀ (m fr to : Nat) (whole : Bool), to - fr ≤ N → fr < to → to ≤ ds.length → ∀ d ∈ pexn ds m fr to whole, d.length = 32 := by
  induction N with
  | zero => intro m fr to whole h1 h2; omega
  | succ N ih =>
    intro m fr to whole hN h1 h2 d hd
    rw [pexn] at hd
    split at hd
    · cases whole
      · simp only [Bool.false_eq_true, if_false, List.mem_singleton] at hd
        subst hd; exact seg_root_length ds hall _ _ h1 h2
      · simp at hd
    · split at hd
      · rename_i h3
        have p1 := lp_pos (to - fr)
        have p2 := lp_lt (to - fr) h3
        split at hd
        · rcases List.mem_append.1 hd with hd | hd
          · exact ih m fr (fr + lp (to - fr)) whole (by omega) (by omega) (by omega) d hd
          · rw [List.mem_singleton] at hd; subst hd; exact seg_root_length ds hall _ _ (by omega) h2
        · rcases List.mem_append.1 hd with hd | hd
          · exact ih m (fr + lp (to - fr)) to false (by omega) (by omega) h2 d hd
          · rw [List.mem_singleton] at hd; subst hd; exact seg_root_length ds hall _ _ (by omega) (by omega)
      · cases hd
theorem pexn_len (ds : List (List UInt8)) (N : Nat) : ∀ (m fr to : Nat) (whole : Bool), to - fr ≤ N → fr < m → m ≤ to → (pexn ds m fr to whole).length = pexl (m - fr) (to - fr) whole := by
  induction N with
  | zero => intro m fr to whole h1 h2; omega
  | succ N ih =>
    intro m fr to whole hN h0 h1
    rw [pexn, pexl]
    by_cases he : m = to
    · rw [if_pos he, if_pos (show m - fr = to - fr by omega)]
      cases whole <;> rfl
    · have h3 : 2 ≤ to - fr := by omega
      have p1 := lp_pos (to - fr)
      have p2 := lp_lt (to - fr) h3
      rw [if_neg he, if_neg (show ¬ m - fr = to - fr by omega)]
      simp only [if_pos h3]
      by_cases h4 : m ≤ fr + lp (to - fr)
      · rw [if_pos h4, if_pos (show m - fr ≤ lp (to - fr) by omega), List.length_append, ih m fr (fr + lp (to - fr)) whole (by omega) h0 h4, show fr + lp (to - fr) - fr = lp (to - fr) by omega, List.length_singleton, Nat.add_comm]
      · rw [if_neg h4, if_neg (show ¬ m - fr ≤ lp (to - fr) by omega), List.length_append, ih m (fr + lp (to - fr)) to false (by omega) (by omega) h1, show m - (fr + lp (to - fr)) = m - fr - lp (to - fr) by omega, show to - (fr + lp (to - fr)) = to - fr - lp (to - fr) by omega, List.length_singleton, Nat.add_comm]
theorem pexn_ext (ds : List (List UInt8)) (N : Nat) : ∀ (old : List UInt8) (m fr to : Nat) (whole : Bool), to - fr ≤ N → fr < m → m ≤ to → to ≤ ds.length → (whole = true → old = mroot (seg ds fr m)) →
    pext old (m - fr) (to - fr) whole (pexn ds m fr to whole) = (mroot (seg ds fr m), mroot (seg ds fr to), true) := by
  induction N with
  | zero => intro old m fr to whole h1 h2; omega
  | succ N ih =>
    intro old m fr to whole hN h0 h1 h2 ho
    rw [pexn, pext]
    by_cases he : m = to
    · subst he
      rw [if_pos rfl, if_pos rfl]
      cases whole
      · rfl
      · rw [ho rfl]; rfl
    · have h3 : 2 ≤ to - fr := by omega
      have p1 := lp_pos (to - fr)
      have p2 := lp_lt (to - fr) h3
      have hn := seg_node ds fr to (by omega) h2
      rw [if_neg he, if_neg (show ¬ m - fr = to - fr by omega)]
      simp only [if_pos h3]
      by_cases h4 : m ≤ fr + lp (to - fr)
      · have a := ih old m fr (fr + lp (to - fr)) whole (by omega) h0 h4 (by omega) ho
        rw [show fr + lp (to - fr) - fr = lp (to - fr) by omega] at a
        rw [if_pos h4, if_pos (show m - fr ≤ lp (to - fr) by omega), if_neg (by simp), take_snoc1, getD_snoc1, a, ← hn]
      · have a := ih old m (fr + lp (to - fr)) to false (by omega) (by omega) h1 h2 (fun h => by cases h)
        rw [show m - (fr + lp (to - fr)) = m - fr - lp (to - fr) by omega, show to - (fr + lp (to - fr)) = to - fr - lp (to - fr) by omega] at a
        have hm := seg_node ds fr m (by omega) (by omega)
        rw [lp_same (m - fr) (to - fr) (by omega) (by omega)] at hm
        rw [if_neg h4, if_neg (show ¬ m - fr ≤ lp (to - fr) by omega), if_neg (by simp), take_snoc1, getD_snoc1, a, ← hn, ← hm]
theorem pexl_le_pow (k : Nat) : ∀ (m n : Nat) (whole : Bool), n ≤ 2 ^ k → pexl m n whole ≤ k + 1 := by
  induction k with
  | zero =>
    intro m n whole h
    rw [pexl]
    split
    · split <;> omega
    · rw [if_neg (by simp at h; omega)]; omega
  | succ k ih =>
    intro m n whole h
    rw [pexl]
    split
    · split <;> omega
    · split
      · rename_i h2
        obtain ⟨h3, h4⟩ := lp_le_pow n k h2 h
        split
        · have := ih m (lp n) whole h3; omega
        · have := ih (m - lp n) (n - lp n) false h4; omega
      · omega
/-- What Extend answers. -/
def pexS (ds : List (List UInt8)) (m n : Nat) : List (List UInt8) := if m = 0 then [] else pexn ds m 0 n true
end Go.Proofs.YteehpfccegnjjaaDoor
