/-
  The contracts of the reference's constants, schedule and block.
-/
import Derived.Test.YteehpfccegnjjaaDoorShaB
import Derived.Test.YteehpfccegnjjaaDoorWordB
import Derived.Test.YteehpfccegnjjaaDoorOwnB
namespace Go.Proofs.YteehpfccegnjjaaDoor
open Go Go.RowKit

/-- The constants as a value. -/
def Kl : List Value := Sha.K.map V32

theorem kref_zero : (Tryd.prog.info? 116).map (·.size) = some 64 := by kernel_rfl
theorem kl_one : Kl.toArray.all (·.oneCell') = true := by decide +kernel

set_option maxRecDepth 100000 in
set_option maxHeartbeats 400000 in
theorem kref_any (w : World) :
    Calls Tryd.prog 70 #[] w fun e w' => e = .returned (.agg Kl.toArray) ∧ Below w.heap.size w w' := by
  go_enter Tryd.func70, Tryd.ntmps70
  go_wp2_with (first | (refine wpList_build rfl 116 _ rfl (by as_aux_lemma => kernel_rfl) ?_) | (refine wpList_store_row rfl 116 (.tmp 0) (.tmp 1) rfl w.heap.size Kl.toArray rfl (by as_aux_lemma => kernel_rfl) 116 _ (heap_alloc_new _ _) kref_zero rfl kl_one ?_))
  exact bodyPost_ret (v := .agg Kl.toArray) (results_cell_row rfl _ _ w.heap.size 116 _ _ _ rfl (setRow_heap _ _ _ _ _ _ (heap_alloc_new _ _)) Tryd.underlying116 rfl kref_zero) rfl ⟨rfl, below_setRow ((Below.refl _ _).alloc (Nat.le_refl _) _) (Nat.le_refl _) _⟩

/-- The head of a round of the reference's schedule: k words stand in the array. -/
def SchR (l : List UInt8) (w : World) (k : Nat) (wr : World) : Prop :=
  Arr wr w.heap.size 116 (List.replicate 64 (V32 0)) ∧
  Arr wr (w.heap.size + 1) 116 ((Sha.sched l k).map V32 ++ List.replicate (64 - k) (V32 0)) ∧ Below w.heap.size w wr

theorem schR_start (l : List UInt8) (w : World) :
    SchR l w 0 ((w.alloc (.cells (List.replicate 64 (V32 0)).toArray 116)).alloc (.cells (List.replicate 64 (V32 0)).toArray 116)) := by
  have e1 : ∀ o, (w.alloc o).heap.size = w.heap.size + 1 := fun o => by simp
  refine ⟨(Arr.new w 116 _).alloc _, ?_, ((Below.refl _ _).alloc (Nat.le_refl _) _).alloc (by simp) _⟩
  have := (Arr.new (w.alloc (.cells (List.replicate 64 (V32 0)).toArray 116)) 116 (List.replicate 64 (V32 0)))
  rw [e1] at this
  exact this
theorem schR_same {l : List UInt8} {w wr w1 : World} {k : Nat} (h : SchR l w k wr) (s : SameHeap wr w1) : SchR l w k w1 :=
  ⟨h.1.same s.heap, h.2.1.same s.heap, h.2.2.trans (s.below _)⟩
theorem schR_step {l : List UInt8} {w wr : World} {k : Nat} (h : SchR l w k wr) (hk : k < 64) (x : Int) (hx : x = ((Sha.nextW l (Sha.sched l k) k).toNat : Int)) :
    SchR l w (k + 1) (wr.setCell ⟨w.heap.size + 1, k, none⟩ (.int .u32 x)).drew := by
  obtain ⟨h1, h3, h4⟩ := h
  subst hx
  refine ⟨(h1.other _ _ (by simp)).drew, ?_, (h4.setCell (by simp) _).drew⟩
  have := (h3.set k (V32 (Sha.nextW l (Sha.sched l k) k))).drew
  rw [Sha.fill_set _ k 64 _ _ (by simp [Sha.sched_length]) hk] at this
  simpa [Sha.sched] using this
theorem schR_cell {l : List UInt8} {w wr : World} {k : Nat} (h : SchR l w k wr) (j : Nat) (hj : j < k) :
    wr.cell? ⟨w.heap.size + 1, j, none⟩ = some (V32 ((Sha.sched l k).getD j 0)) := by
  rw [h.2.1.cell j, Sha.fill_get_lt _ k _ _ _ (by simp [Sha.sched_length]) hj]
  have : j < (Sha.sched l k).length := by rw [Sha.sched_length]; exact hj
  simp [this]

theorem v32_one (l : List UInt32) : (l.map V32).toArray.all (·.oneCell') = true := by
  rw [Array.all_eq_true_iff_forall_mem]
  intro v hv
  simp only [List.mem_toArray, List.mem_map] at hv
  obtain ⟨x, _, rfl⟩ := hv
  rfl
theorem v8_one (l : List UInt8) : (l.map V8).toArray.all (·.oneCell') = true := by
  rw [Array.all_eq_true_iff_forall_mem]
  intro v hv
  simp only [List.mem_toArray, List.mem_map] at hv
  obtain ⟨x, _, rfl⟩ := hv
  rfl
theorem wp_drewN {P : Program} {C : Code} {Q : Exit → Act → World → Prop} {a : Act} {w : World} (h : ∀ w2, SameHeap w w2 → C.wp P Q a w2) (n : Nat) : C.wp P Q a (w.drewN n) := h _ (SameHeap.drewN w n)

set_option maxRecDepth 100000 in
set_option maxHeartbeats 400000 in
theorem schedule_any (l : List UInt8) (hl : l.length = 64) (g off cap : Nat) (w : World) (hg : g < w.heap.size) (hb : Bytes w g off l) :
    Calls Tryd.prog 69 #[.slice (some ⟨g, off, none⟩) 64 cap] w fun e w' => e = .returned (.agg ((Sha.sched l 64).map V32).toArray) ∧ Below w.heap.size w w' := by
  have Hb := Lib.hid hb; clear hb
  have Hl := Lib.hid hl; clear hl
  go_enter Tryd.func69, Tryd.ntmps69
  go_wp2
  go_loopw [4] (fun t wr => ∃ k : Nat, k ≤ 64 ∧ t = .int .i64 k ∧ SchR l w k wr) (fun t _ => 64 - (intOf t).toNat)
  case atStart => exact ⟨0, by omega, rfl, schR_start l w⟩
  case round =>
    obtain ⟨k, hk, rfl, hS⟩ := hrel
    by_cases h16 : k < 16
    · have k64 : (k : Int) < 64 := by omega
      have k16 : (k : Int) < 16 := by omega
      have hc := (hS.2.1.cell k).trans (Sha.fill_get _ k 64 _ (by simp [Sha.sched_length]) (by omega))
      have hf := hS.2.1.frozen k
      have hby := Hb.out.below hS.2.2 hg
      have e0 : IntKind.i64.wrap (4 * (k : Int)) = 4 * (k : Int) := i64_nat (4 * k) (by omega)
      have f0 : 0 ≤ 4 * (k : Int) := by omega
      have g0 : 4 * (k : Int) < 64 := by omega
      have t0 : (4 * (k : Int)).toNat = 4 * k := by omega
      have e1 : IntKind.i64.wrap (4 * (k : Int) + 1) = 4 * (k : Int) + 1 := i64_nat (4 * k + 1) (by omega)
      have f1 : 0 ≤ 4 * (k : Int) + 1 := by omega
      have g1 : 4 * (k : Int) + 1 < 64 := by omega
      have t1 : (4 * (k : Int) + 1).toNat = 4 * k + 1 := by omega
      have e2 : IntKind.i64.wrap (4 * (k : Int) + 2) = 4 * (k : Int) + 2 := i64_nat (4 * k + 2) (by omega)
      have f2 : 0 ≤ 4 * (k : Int) + 2 := by omega
      have g2 : 4 * (k : Int) + 2 < 64 := by omega
      have t2 : (4 * (k : Int) + 2).toNat = 4 * k + 2 := by omega
      have e3 : IntKind.i64.wrap (4 * (k : Int) + 3) = 4 * (k : Int) + 3 := i64_nat (4 * k + 3) (by omega)
      have f3 : 0 ≤ 4 * (k : Int) + 3 := by omega
      have g3 : 4 * (k : Int) + 3 < 64 := by omega
      have t3 : (4 * (k : Int) + 3).toNat = 4 * k + 3 := by omega
      have c0 := hby (4 * k) (by have := Hl.out; omega)
      have c1 := hby (4 * k + 1) (by have := Hl.out; omega)
      have c2 := hby (4 * k + 2) (by have := Hl.out; omega)
      have c3 := hby (4 * k + 3) (by have := Hl.out; omega)
      clear hby
      go_wp2
      go_still_tail 35, (by kernel_rfl)
      change wpList _ _ _ _ _ wr.drew
      go_wp2
      go_roundw
      case rel =>
        refine ⟨k + 1, by omega, by go_num, schR_step hS (by omega) _ ?_⟩
        rw [word_raw2, Sha.nextW, if_pos h16, Sha.word]
        simp only [List.getD_eq_getElem?_getD]
      case measure => simp [intOf]; omega
    · by_cases h64 : k < 64
      · have e15 : IntKind.i64.wrap ((k : Int) - 15) = (k : Int) - 15 := i64_int _ (by omega) (by omega)
        have f15 : 0 ≤ (k : Int) - 15 := by omega
        have f15' : 15 ≤ (k : Int) := by omega
        have g15 : (k : Int) - 15 < 64 := by omega
        have t15 : ((k : Int) - 15).toNat = k - 15 := by omega
        have c15 := schR_cell hS (k - 15) (by omega)
        have e2 : IntKind.i64.wrap ((k : Int) - 2) = (k : Int) - 2 := i64_int _ (by omega) (by omega)
        have f2 : 0 ≤ (k : Int) - 2 := by omega
        have f2' : 2 ≤ (k : Int) := by omega
        have g2 : (k : Int) - 2 < 64 := by omega
        have t2 : ((k : Int) - 2).toNat = k - 2 := by omega
        have c2 := schR_cell hS (k - 2) (by omega)
        have e16 : IntKind.i64.wrap ((k : Int) - 16) = (k : Int) - 16 := i64_int _ (by omega) (by omega)
        have f16 : 0 ≤ (k : Int) - 16 := by omega
        have f16' : 16 ≤ (k : Int) := by omega
        have g16 : (k : Int) - 16 < 64 := by omega
        have t16 : ((k : Int) - 16).toNat = k - 16 := by omega
        have c16 := schR_cell hS (k - 16) (by omega)
        have e7 : IntKind.i64.wrap ((k : Int) - 7) = (k : Int) - 7 := i64_int _ (by omega) (by omega)
        have f7 : 0 ≤ (k : Int) - 7 := by omega
        have f7' : 7 ≤ (k : Int) := by omega
        have g7 : (k : Int) - 7 < 64 := by omega
        have t7 : ((k : Int) - 7).toNat = k - 7 := by omega
        have c7 := schR_cell hS (k - 7) (by omega)
        have k64 : (k : Int) < 64 := by omega
        go_wp2
        go_quiet (fail)
        have hS1 := schR_same hS (SameHeap.drewN wr nq)
        generalize wr.drewN nq = w1 at hS1
        clear c15 c2 c16 c7
        go_wp2_with ((go_at_call 71; refine (turn_any _ _ (by simp [Turns]) _).mono ?_; rintro e w' ⟨rfl, m, rfl⟩))
        refine wp_drewN (fun w2 hs => ?_) _
        have hS2 := schR_same hS1 hs
        clear hS1 hs
        have c16 := schR_cell hS2 (k - 16) (by omega)
        have c7 := schR_cell hS2 (k - 7) (by omega)
        have hf := hS2.2.1.frozen k
        have hc := (hS2.2.1.cell k).trans (Sha.fill_get _ k 64 _ (by simp [Sha.sched_length]) (by omega))
        go_wp2
        go_still_tail 15, (by kernel_rfl)
        change wpList _ _ _ _ _ w2.drew
        go_wp2
        go_roundw
        case rel =>
          refine ⟨k + 1, by omega, by go_num, schR_step hS2 (by omega) _ ?_⟩
          simp only [w_shr3, w_shr10, w_xor, w_add4]
          rw [Sha.nextW, if_neg (by omega)]
          simp only [List.getD_eq_getElem?_getD]
          rfl
        case measure => simp [intOf]; omega
      · obtain rfl : k = 64 := by omega
        have hz : ((Sha.sched l 64).map V32).length = 64 := by rw [List.length_map, Sha.sched_length]
        have Hz := Lib.hid hz; clear hz
        go_wp2_with (first | (refine wpList_load_row rfl 116 (.tmp 3) rfl (w.heap.size + 1) rfl 116 ((Sha.sched l 64).map V32).toArray (0, 0) _ (by have := hS.2.1; simpa [Arr] using this) Tryd.underlying116 rfl (by rw [List.size_toArray, Hz.out]; exact kref_zero) ?_) | (refine wpList_store_row rfl 116 (.tmp 2) (.tmp 89) rfl w.heap.size ((Sha.sched l 64).map V32).toArray rfl rfl 116 _ hS.1 (by rw [List.size_toArray, Hz.out]; exact kref_zero) (by rw [List.size_toArray, List.size_toArray, Hz.out]; rfl) (v32_one _) ?_))
        exact bodyPost_ret (v := .agg ((Sha.sched l 64).map V32).toArray) (results_cell_row rfl _ _ w.heap.size 116 _ _ _ rfl (setRow_heap _ _ _ _ _ _ hS.1) Tryd.underlying116 rfl (by rw [List.size_toArray, Hz.out]; exact kref_zero)) rfl ⟨rfl, below_setRow hS.2.2 (Nat.le_refl _) _⟩
end Go.Proofs.YteehpfccegnjjaaDoor
