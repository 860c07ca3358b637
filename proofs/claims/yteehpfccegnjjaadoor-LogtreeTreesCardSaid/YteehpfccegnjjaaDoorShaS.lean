/-
  The contract of the reference's block.
-/
import Derived.Test.YteehpfccegnjjaaDoorShaR
namespace Go.Proofs.YteehpfccegnjjaaDoor
open Go Go.RowKit

theorem w_not' (x : UInt32) : bits .xor .u32 (4294967295 : Int) (x.toNat : Int) = ((~~~x).toNat : Int) := w_not x

/-- The head of a round of the reference's first loop. -/
def RndR (v : Sha.S8) (l : List UInt8) (w : World) (A B X : Nat) (k : Nat) (wr : World) : Prop :=
  Arr wr w.heap.size 97 (S8l v) ∧ Arr wr (w.heap.size + 1) 97 (List.replicate 8 (V32 0)) ∧ Arr wr A 116 ((Sha.sched l 64).map V32) ∧ Arr wr B 116 Kl ∧
  Arr wr X 97 (S8l (Sha.rounds l v k)) ∧ Below w.heap.size w wr

theorem rndR_same {v : Sha.S8} {l : List UInt8} {w wr w1 : World} {A B X k : Nat} (h : RndR v l w A B X k wr) (s : SameHeap wr w1) : RndR v l w A B X k w1 :=
  ⟨h.1.same s.heap, h.2.1.same s.heap, h.2.2.1.same s.heap, h.2.2.2.1.same s.heap, h.2.2.2.2.1.same s.heap, h.2.2.2.2.2.trans (s.below _)⟩
theorem rndR_step {v : Sha.S8} {l : List UInt8} {w wr : World} {A B X k : Nat} (h : RndR v l w A B X k wr) (hX : w.heap.size + 1 < X ∧ A < X ∧ B < X) (p q : Int)
    (hp : p = ((Sha.ep (Sha.rounds l v k) (Sha.K.getD k 0) ((Sha.sched l 64).getD k 0) + Sha.eq (Sha.rounds l v k)).toNat : Int))
    (hq : q = (((Sha.rounds l v k).d + Sha.ep (Sha.rounds l v k) (Sha.K.getD k 0) ((Sha.sched l 64).getD k 0)).toNat : Int)) :
    RndR v l w A B X (k + 1) ((((((((wr.setCell ⟨X, 0, none⟩ (.int .u32 p)).setCell ⟨X, 1, none⟩ (V32 (Sha.rounds l v k).a)).setCell ⟨X, 2, none⟩ (V32 (Sha.rounds l v k).b)).setCell ⟨X, 3, none⟩ (V32 (Sha.rounds l v k).c)).setCell
      ⟨X, 4, none⟩ (.int .u32 q)).setCell ⟨X, 5, none⟩ (V32 (Sha.rounds l v k).e)).setCell ⟨X, 6, none⟩ (V32 (Sha.rounds l v k).f)).setCell ⟨X, 7, none⟩ (V32 (Sha.rounds l v k).g)) := by
  obtain ⟨h1, h2, h3, h6, h4, h5⟩ := h
  obtain ⟨x1, x2, x3⟩ := hX
  subst hp hq
  have o : ∀ {u : World} {b : Nat} {T : TypeId} {l : List Value} (j : Nat) (z : Value), b ≠ X → Arr u b T l → Arr (u.setCell ⟨X, j, none⟩ z) b T l := fun j z hb ha => ha.other _ _ hb
  refine ⟨?_, ?_, ?_, ?_, ?_, ?_⟩
  · iterate 8 refine o _ _ (by omega) ?_
    exact h1
  · iterate 8 refine o _ _ (by omega) ?_
    exact h2
  · iterate 8 refine o _ _ (by omega) ?_
    exact h3
  · iterate 8 refine o _ _ (by omega) ?_
    exact h6
  · have := (((((((h4.set 0 (V32 (Sha.ep (Sha.rounds l v k) (Sha.K.getD k 0) ((Sha.sched l 64).getD k 0) + Sha.eq (Sha.rounds l v k)))).set 1 (V32 (Sha.rounds l v k).a)).set 2 (V32 (Sha.rounds l v k).b)).set 3 (V32 (Sha.rounds l v k).c)).set 4
      (V32 ((Sha.rounds l v k).d + Sha.ep (Sha.rounds l v k) (Sha.K.getD k 0) ((Sha.sched l 64).getD k 0)))).set 5 (V32 (Sha.rounds l v k).e)).set 6 (V32 (Sha.rounds l v k).f)).set 7 (V32 (Sha.rounds l v k).g)
    exact this
  · iterate 8 refine Below.setCell ?_ (by show w.heap.size ≤ X; omega) _
    exact h5
theorem arr_new2 (w : World) (T : TypeId) (o : Obj) (l : List Value) : Arr ((w.alloc o).alloc (.cells l.toArray T (0, 0))) (w.heap.size + 1) T l := by
  have := Arr.new (w.alloc o) T l
  rwa [show (w.alloc o).heap.size = w.heap.size + 1 by simp] at this

/-- Behind the calls of schedule and K, and the two stores. -/
theorem rndR_start {v : Sha.S8} {w w0 w1 w2 : World} (hb0 : Below w.heap.size w w0) (h0 : Arr w0 w.heap.size 97 (S8l v)) (h1 : Arr w0 (w.heap.size + 1) 97 (List.replicate 8 (V32 0)))
    (hb1 : Below w0.heap.size w0 w1) (hb2 : Below w1.heap.size w1 w2) (sl kl : List Value) :
    let w3 := (((((w2.alloc (.cells (List.replicate 64 (V32 0)).toArray 116)).alloc (.cells (List.replicate 64 (V32 0)).toArray 116)).setRow w2.heap.size sl.toArray)).setRow (w2.heap.size + 1) kl.toArray)
    Arr w3 w.heap.size 97 (S8l v) ∧ Arr w3 (w.heap.size + 1) 97 (List.replicate 8 (V32 0)) ∧ Arr w3 w2.heap.size 116 sl ∧ Arr w3 (w2.heap.size + 1) 116 kl ∧ Below w.heap.size w w3 ∧ w.heap.size + 1 < w2.heap.size := by
  have a0 := (h0.below hb1 h0.lt).below hb2 (Nat.lt_of_lt_of_le h0.lt hb1.size)
  have a1 := (h1.below hb1 h1.lt).below hb2 (Nat.lt_of_lt_of_le h1.lt hb1.size)
  have lt1 := a1.lt
  have lt0 := a0.lt
  have s1 := hb1.size
  have s2 := hb2.size
  have s0 := hb0.size
  refine ⟨?_, ?_, ?_, ?_, ?_, lt1⟩
  · exact (((a0.alloc _).alloc _).setRow_other _ _ (by omega)).setRow_other _ _ (by omega)
  · exact (((a1.alloc _).alloc _).setRow_other _ _ (by omega)).setRow_other _ _ (by omega)
  · exact (((Arr.new w2 116 (List.replicate 64 (V32 0))).alloc _).setRow sl.toArray).setRow_other _ _ (by omega)
  · exact ((arr_new2 w2 116 _ (List.replicate 64 (V32 0))).setRow_other _ _ (by omega)).setRow kl.toArray
  · have b2 : Below w.heap.size w w2 := (hb0.trans (hb1.mono s0)).trans (hb2.mono (by omega))
    exact below_setRow (below_setRow ((b2.alloc (by omega) _).alloc (by simp; omega) _) (by omega) _) (by omega) _

theorem k_at {w : World} {b : Nat} {T : TypeId} (h : Arr w b T Kl) (j : Nat) (hj : j < 64) : w.cell? ⟨b, j, none⟩ = some (V32 (Sha.K.getD j 0)) := by
  rw [h.cell j]
  have : j < Sha.K.length := hj
  simp [Kl, this]

set_option maxRecDepth 100000 in
set_option maxHeartbeats 1000000 in
theorem blockR_any (v : Sha.S8) (l : List UInt8) (hl : l.length = 64) (g off cap : Nat) (w : World) (hg : g < w.heap.size) (hb : Bytes w g off l) :
    Calls Tryd.prog 58 #[S8v v, .slice (some ⟨g, off, none⟩) 64 cap] w fun e w' => e = .returned (S8v (Sha.block v l)) ∧ Below w.heap.size w w' := by
  have Hb := Lib.hid hb; clear hb
  have Hl := Lib.hid hl; clear hl
  unfold S8v
  go_enter Tryd.func58, Tryd.ntmps58
  go_wp2_with fail
  refine (schedule_any l Hl.out g off cap _ ?_ ?_).mono ?_
  · simp; omega
  · exact Hb.out.below (((Below.refl _ _).alloc (Nat.le_refl _) _).alloc (by simp) _) hg
  rintro e w1 ⟨he, hb1⟩
  generalize hsl : (Sha.sched l 64).map V32 = sl at he
  have Hsl := Lib.hid hsl; clear hsl
  subst he
  go_wp2_with fail
  refine (kref_any _).mono ?_
  rintro e w2 ⟨he, hb2⟩
  generalize hkl : Kl = kl at he
  have Hkl := Lib.hid hkl; clear hkl
  subst he
  have hs1 : sl.length = 64 := by rw [← Hsl.out, List.length_map, Sha.sched_length]
  have hk1 : kl.length = 64 := by rw [← Hkl.out]; rfl
  have Hs1 := Lib.hid hs1; clear hs1
  have Hk1 := Lib.hid hk1; clear hk1
  simp only []
  iterate 7 go_step
  refine wpList_store_row rfl 116 (.tmp 5) (.tmp 13) rfl w2.heap.size sl.toArray rfl rfl 116 (List.replicate 64 (V32 0)).toArray ?hg1 (by rw [List.size_toArray, Hs1.out]; exact kref_zero) (by rw [List.size_toArray, List.size_toArray, Hs1.out]; rfl) (by rw [← Hsl.out]; exact v32_one _) ?_
  case hg1 => exact (Arr.new w2 116 (List.replicate 64 (V32 0))).alloc _
  refine wpList_store_row rfl 116 (.tmp 6) (.tmp 14) rfl (w2.heap.size + 1) kl.toArray rfl rfl 116 (List.replicate 64 (V32 0)).toArray ?hg2 (by rw [List.size_toArray, Hk1.out]; exact kref_zero) (by rw [List.size_toArray, List.size_toArray, Hk1.out]; rfl) (by rw [← Hkl.out]; exact kl_one) ?_
  case hg2 => exact (arr_new2 w2 116 _ (List.replicate 64 (V32 0))).setRow_other _ _ (by omega)
  have h0 : Arr ((w.alloc (.cells (S8l v).toArray 97)).alloc (.cells (List.replicate 8 (V32 0)).toArray 97)) w.heap.size 97 (S8l v) := (Arr.new w 97 _).alloc _
  have h1 := arr_new2 w 97 (.cells (S8l v).toArray 97) (List.replicate 8 (V32 0))
  have hb0 : Below w.heap.size w ((w.alloc (.cells (S8l v).toArray 97)).alloc (.cells (List.replicate 8 (V32 0)).toArray 97)) := ((Below.refl _ _).alloc (Nat.le_refl _) _).alloc (by simp) _
  have R := rndR_start hb0 h0 h1 hb1 hb2 sl kl
  obtain ⟨R1, R2, R3, R4, R5, R6⟩ := R
  change wpList _ _ _ _ _ (((((w2.alloc (.cells (List.replicate 64 (V32 0)).toArray 116)).alloc (.cells (List.replicate 64 (V32 0)).toArray 116)).setRow w2.heap.size sl.toArray)).setRow (w2.heap.size + 1) kl.toArray)
  generalize (((((w2.alloc (.cells (List.replicate 64 (V32 0)).toArray 116)).alloc (.cells (List.replicate 64 (V32 0)).toArray 116)).setRow w2.heap.size sl.toArray)).setRow (w2.heap.size + 1) kl.toArray) = w3 at R1 R2 R3 R4 R5
  generalize w2.heap.size = A at R3 R4 R6
  rw [← Hsl.out] at R3
  rw [← Hkl.out] at R4
  clear h0 h1 hb0 hb1 hb2 Hs1 Hk1 Hsl Hkl
  obtain ⟨a0, a1, a2, a3, a4, a5, a6, a7⟩ := s8_cells R1
  go_wp2
  have hR : RndR v l w A (A + 1) w3.heap.size 0 (w3.alloc (.cells (S8l v).toArray 97)) := ⟨R1.alloc _, R2.alloc _, R3.alloc _, R4.alloc _, Arr.new _ _ _, R5.alloc R5.size _⟩
  have hX := R4.lt
  change Code.wp _ _ _ _ (w3.alloc (.cells (S8l v).toArray 97))
  generalize w3.alloc (.cells (S8l v).toArray 97) = w4 at hR
  generalize w3.heap.size = X at hR hX
  clear a0 a1 a2 a3 a4 a5 a6 a7 R1 R2 R3 R4 R5
  go_loopw [8] (fun t wr => ∃ k : Nat, k ≤ 64 ∧ t = .int .i64 k ∧ RndR v l w A (A + 1) X k wr) (fun t _ => 64 - (intOf t).toNat)
  case atStart => exact ⟨0, by omega, rfl, hR⟩
  case round =>
    obtain ⟨k, hk, rfl, hR⟩ := hrel
    by_cases hlt : k < 64
    · have k64 : (k : Int) < 64 := by omega
      obtain ⟨a0, a1, a2, a3, a4, a5, a6, a7⟩ := s8_cells hR.2.2.2.2.1
      have ck := cell_at_word hR.2.2.1 k hlt
      have kt := k_at hR.2.2.2.1 k hlt
      go_wp2
      go_quiet ((exact Calls.quiet_of (turn_any _ _ (by simp [Turns]) _)))
      have hR := rndR_same hR (SameHeap.drewN wr nq)
      generalize wr.drewN nq = w1 at hR
      clear a0 a1 a2 a3 a4 a5 a6 a7 ck kt
      obtain ⟨a0, a1, a2, a3, a4, a5, a6, a7⟩ := s8_cells hR.2.2.2.2.1
      go_wp2
      go_quiet ((exact Calls.quiet_of (turn_any _ _ (by simp [Turns]) _)))
      have hR := rndR_same hR (SameHeap.drewN w1 nq)
      generalize w1.drewN nq = w5 at hR
      clear a0 a1 a2 a3 a4 a5 a6 a7
      obtain ⟨a0, a1, a2, a3, a4, a5, a6, a7⟩ := s8_cells hR.2.2.2.2.1
      obtain ⟨b0, b1, b2, b3, b4, b5, b6, b7⟩ := s8_free hR.2.2.2.2.1
      go_wp2
      go_roundw
      case rel =>
        refine ⟨k + 1, by omega, by go_num, rndR_step hR (by omega) _ _ ?_ ?_⟩
        · simp only [w_xor, w_and, w_not', List.getD_eq_getElem?_getD, Sha.ep, Sha.eq, UInt32.toNat_add]
          omega
        · simp only [w_xor, w_and, w_not', List.getD_eq_getElem?_getD, Sha.ep, UInt32.toNat_add]
          omega
      case measure => simp [intOf]; omega
    · obtain rfl : k = 64 := by omega
      go_wp2
      go_loopw [11] (fun t wr => ∃ k : Nat, k ≤ 8 ∧ t = .int .i64 k ∧ Sums v (Sha.rounds l v 64) w X k wr) (fun t _ => 8 - (intOf t).toNat)
      case atStart => exact ⟨0, by omega, rfl, ⟨hR.1, hR.2.1, hR.2.2.2.2.1, hR.2.2.2.2.2⟩⟩
      case round =>
        obtain ⟨k, hk, rfl, hT⟩ := hrel
        by_cases hlt : k < 8
        · have k8 : (k : Int) < 8 := by omega
          have c1 := (hT.1.cell k).trans (sums_get v (Sha.rounds l v 64) k hlt)
          have c2 := (hT.2.2.1.cell k).trans (s8_get (Sha.rounds l v 64) k hlt)
          have c3 := hT.1.frozen k
          go_wp2
          go_still_tail 9, (by kernel_rfl)
          change wpList _ _ _ _ _ wr.drew
          go_wp2
          go_roundw
          case rel =>
            (repeat apply Exists.intro)
            refine ⟨⟨k + 1, by omega, by go_num, sums_step hT (by omega) hlt _ ?_⟩, rfl⟩
            rw [UInt32.toNat_add]; rfl
          case measure => simp [intOf]; omega
        · obtain rfl : k = 8 := by omega
          obtain ⟨a0, a1, a2, a3, a4, a5, a6, a7⟩ := s8_cells (v := Sha.block v l) hT.1
          have hz : ∀ j : Nat, wr.frozen? ⟨w.heap.size + 1, j, none⟩ = false := hT.2.1.frozen
          obtain ⟨z0, z1, z2, z3, z4, z5, z6, z7⟩ := s8_cells (v := ⟨0, 0, 0, 0, 0, 0, 0, 0⟩) hT.2.1
          go_wp2
          exact bodyPost_ret (v := S8v (Sha.block v l)) (results_cell_row rfl _ _ (w.heap.size + 1) _ _ _ _ rfl (fin_heap hT.2.1) Tryd.underlying97 rfl (by kernel_rfl)) rfl ⟨rfl, fin_below hT.2.2.2 (by omega)⟩
end Go.Proofs.YteehpfccegnjjaaDoor
