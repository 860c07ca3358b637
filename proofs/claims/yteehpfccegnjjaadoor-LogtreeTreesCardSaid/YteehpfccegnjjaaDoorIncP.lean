/-
  Plain laws of the path of an index, and of an append beside a tree.
-/
import Derived.Test.YteehpfccegnjjaaDoorPart
namespace Go.Proofs.YteehpfccegnjjaaDoor
open Go Go.RowKit
/-- The path of an index in the leaves from one up to another. -/
def pinc (ds : List (List UInt8)) (idx fr to : Nat) : List (List UInt8) :=
  if 2 ≤ to - fr then
    if idx < fr + lp (to - fr) then pinc ds idx fr (fr + lp (to - fr)) ++ [mroot (seg ds (fr + lp (to - fr)) to)]
    else pinc ds idx (fr + lp (to - fr)) to ++ [mroot (seg ds fr (fr + lp (to - fr)))]
  else []
termination_by to - fr
decreasing_by
  · have := lp_lt (to - fr) ‹_›; omega
  · have := lp_pos (to - fr); omega
theorem seg_root_length (ds : List (List UInt8)) (hall : ∀ d ∈ ds, d.length = 32) (a b : Nat) (h : a < b) (hb : b ≤ ds.length) : (mroot (seg ds a b)).length = 32 :=
  mroot_length _ (seg_all hall a b) fun e => by
    have := seg_length ds a b (by omega) hb
    rw [e] at this
    simp at this
    omega
theorem pinc_all (ds : List (List UInt8)) (hall : ∀ d ∈ ds, d.length = 32) (N : Nat) : ∀ (idx fr to : Nat), to - fr ≤ N → fr < to → to ≤ ds.length → ∀ d ∈ pinc ds idx fr to, d.length = 32 := by
  induction N with
  | zero => intro idx fr to h1 h2; omega
  | succ N ih =>
    intro idx fr to hN h1 h2 d hd
    rw [pinc] at hd
    split at hd
    · rename_i h3
      have p1 := lp_pos (to - fr)
      have p2 := lp_lt (to - fr) h3
      split at hd
      · rcases List.mem_append.1 hd with hd | hd
        · exact ih idx fr (fr + lp (to - fr)) (by omega) (by omega) (by omega) d hd
        · rw [List.mem_singleton] at hd; subst hd; exact seg_root_length ds hall _ _ (by omega) h2
      · rcases List.mem_append.1 hd with hd | hd
        · exact ih idx (fr + lp (to - fr)) to (by omega) (by omega) h2 d hd
        · rw [List.mem_singleton] at hd; subst hd; exact seg_root_length ds hall _ _ (by omega) (by omega)
    · cases hd
theorem take_snoc1 {α : Type} (l : List α) (x : α) : (l ++ [x]).take ((l ++ [x]).length - 1) = l := by simp
theorem getD_snoc1 (l : List (List UInt8)) (x : List UInt8) : (l ++ [x]).getD ((l ++ [x]).length - 1) [] = x := by
  rw [List.length_append, List.length_singleton, Nat.add_sub_cancel, List.getD_eq_getElem?_getD, List.getElem?_append_right (Nat.le_refl _)]
  simp
theorem pinc_from (ds : List (List UInt8)) (N : Nat) : ∀ (idx fr to : Nat), to - fr ≤ N → fr ≤ idx → idx < to → to ≤ ds.length →
    (pinc ds idx fr to).length = plong (idx - fr) (to - fr) ∧ pfrom (ds.getD idx []) (idx - fr) (to - fr) (pinc ds idx fr to) = mroot (seg ds fr to) := by
  induction N with
  | zero => intro idx fr to h1 h2; omega
  | succ N ih =>
    intro idx fr to hN h0 h1 h2
    rw [pinc, plong, pfrom]
    by_cases h3 : 2 ≤ to - fr
    · have p1 := lp_pos (to - fr)
      have p2 := lp_lt (to - fr) h3
      have hn := seg_node ds fr to (by omega) h2
      simp only [if_pos h3]
      by_cases h4 : idx < fr + lp (to - fr)
      · obtain ⟨a, b⟩ := ih idx fr (fr + lp (to - fr)) (by omega) h0 h4 (by omega)
        rw [show fr + lp (to - fr) - fr = lp (to - fr) by omega] at a b
        rw [if_pos h4, if_pos (by omega), if_pos (by omega), take_snoc1, getD_snoc1, b, ← hn]
        refine ⟨?_, rfl⟩
        rw [List.length_append, a, List.length_singleton, Nat.add_comm]
      · obtain ⟨a, b⟩ := ih idx (fr + lp (to - fr)) to (by omega) (by omega) h1 h2
        rw [show idx - (fr + lp (to - fr)) = idx - fr - lp (to - fr) by omega, show to - (fr + lp (to - fr)) = to - fr - lp (to - fr) by omega] at a b
        rw [if_neg h4, if_neg (by omega), if_neg (by omega), take_snoc1, getD_snoc1, b, ← hn]
        refine ⟨?_, rfl⟩
        rw [List.length_append, a, List.length_singleton, Nat.add_comm]
    · simp only [if_neg h3]
      refine ⟨rfl, ?_⟩
      have e1 : idx = fr := by omega
      have e2 : to = fr + 1 := by omega
      subst e1
      subst e2
      exact (seg_one ds idx (by omega)).symm
theorem lp_le_pow (n k : Nat) (h2 : 2 ≤ n) (h : n ≤ 2 ^ (k + 1)) : lp n ≤ 2 ^ k ∧ n - lp n ≤ 2 ^ k := by
  have h1 : (n - 1).log2 < k + 1 := (Nat.log2_lt (by omega)).2 (by omega)
  have h3 : lp n ≤ 2 ^ k := by unfold lp; exact Nat.pow_le_pow_right (by omega) (by omega)
  have h4 : n - 1 < 2 ^ ((n - 1).log2 + 1) := Nat.lt_log2_self
  have h5 : 2 ^ ((n - 1).log2 + 1) = 2 * lp n := by unfold lp; rw [Nat.pow_succ, Nat.mul_comm]
  exact ⟨h3, by omega⟩
theorem plong_le (k : Nat) : ∀ (i n : Nat), n ≤ 2 ^ k → plong i n ≤ k := by
  induction k with
  | zero => intro i n h; rw [plong, if_neg (by simp at h; omega)]; omega
  | succ k ih =>
    intro i n h
    rw [plong]
    split
    · rename_i h2
      obtain ⟨h3, h4⟩ := lp_le_pow n k h2 h
      split
      · have := ih i (lp n) h3; omega
      · have := ih (i - lp n) (n - lp n) h4; omega
    · omega
/-- An append beside a tree. -/
theorem PT.grown {w w1 w2 : World} {base g : Nat} {ds : List (List UInt8)} {v mv : Value} (h : PT w base g ds v mv w1) (ht : Tr w base g ds v mv) {bs : Nat} {e : TypeId} {sz n : Nat} {u : Value} {xs : List Value} (hO : Own w1 bs e sz u n xs) (hb : w.heap.size ≤ bs)
    (hg : w1.grownBy w2 u.ownBlock) : PT w base g ds v mv w2 := by
  obtain ⟨mv', h1, h2, h3⟩ := h
  have hlt := ht.lt
  have hu : ∀ k, some k = u.ownBlock → w.heap.size ≤ k ∧ ∃ cs T fr, w1.heap[k]? = some (.cells cs T fr) := fun k hk => by
    rcases hO.2 with ⟨rfl, _⟩ | ⟨g', cap, cur, fr, rfl, hbg, hh, _⟩
    · cases hk
    · have : k = g' := by simpa [Value.ownBlock] using hk
      subst this
      exact ⟨by omega, _, _, _, hh⟩
  have hblk : ∀ k, k < w.heap.size → w2.heap[k]? = w1.heap[k]? := fun k hk => hg.block k (Nat.lt_of_lt_of_le hk h2.size) (fun e => by have := (hu k e).1; omega)
  refine ⟨mv', ⟨h1.all, (hblk g hlt).trans h1.arr, h1.own.kept (fun k hk => hblk k (ht.own.lt k hk).2), h1.apart, h1.ge, h1.roots.same (fun b e => ?_), ?_, h1.kb⟩, ⟨hg.os.trans h2.os, hg.tape.trans h2.tape, hg.output.trans h2.output, Nat.le_trans h2.size hg.size, fun k hk hn => (hblk k hk).trans (h2.block k hk hn)⟩, h3⟩
  · subst e
    obtain ⟨_, hb2, es, c, he⟩ := h1.roots.lt
    refine hg.block b hb2 fun e => ?_
    obtain ⟨_, cs, T, fr, hc⟩ := hu b e
    rw [hc] at he; cases he
  · exact ⟨Nat.lt_of_lt_of_le h1.kt.1 hg.size, fun i hi => (World.cell?_of_block (hblk _ ht.kt.1)).trans (h1.kt.2 i hi)⟩
end Go.Proofs.YteehpfccegnjjaaDoor
