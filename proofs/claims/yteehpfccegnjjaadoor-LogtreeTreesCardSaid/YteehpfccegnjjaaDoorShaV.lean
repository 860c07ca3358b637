/-
  The contract of sha256.Sum.
-/
import Derived.Test.YteehpfccegnjjaaDoorShaU
namespace Go.Proofs.YteehpfccegnjjaaDoor
open Go Go.RowKit

theorem arr2 (w : World) (T T' : TypeId) (l l' : List Value) :
    Arr ((w.alloc (.cells l.toArray T)).alloc (.cells l'.toArray T')) w.heap.size T l ∧ Arr ((w.alloc (.cells l.toArray T)).alloc (.cells l'.toArray T')) (w.heap.size + 1) T' l' ∧ Below w.heap.size w ((w.alloc (.cells l.toArray T)).alloc (.cells l'.toArray T')) := by
  have h1 := Arr.new (w.alloc (.cells l.toArray T)) T' l'
  rw [show (w.alloc (.cells l.toArray T)).heap.size = w.heap.size + 1 by simp] at h1
  exact ⟨(Arr.new w T l).alloc _, h1, ((Below.refl _ _).alloc (Nat.le_refl _) _).alloc (by simp) _⟩

set_option maxRecDepth 100000 in
set_option maxHeartbeats 1000000 in
theorem sum_any (l : List UInt8) (hl : l.length ≤ 4294967296) (w : World) (hc : 0 < w.heap.size) (hK : KTab w) :
    Calls Tryd.prog 65 #[.string (bs l)] w fun e w' => e = .returned (Dv (Sha.sum l)) ∧ Below w.heap.size w w' := by
  have Hk := Lib.hid hK; clear hK
  have hd : (Sha.sum l).length = 32 := Sha.sum_length l
  generalize hde : Sha.sum l = d at hd
  have Hde := Lib.hid hde; clear hde
  have Hd := Lib.hid hd; clear hd
  go_enter Tryd.func65, Tryd.ntmps65
  go_wp2_with fail
  have hA := arr2 w 24 123 (List.replicate 32 (V8 0)) (Hl S0 [] 0)
  refine (write_any l hl (w.heap.size + 1) _ hA.2.1 ?_ ?_ ?_).mono ?_
  · simp
  · omega
  · exact fun i hi => (hA.2.2.cell (p := ⟨0, i, none⟩) hc).trans (Hk.out i hi)
  rintro e w1 ⟨rfl, hg, hA1⟩
  have hR1 : Arr w1 w.heap.size 24 (List.replicate 32 (V8 0)) := by
    unfold Arr; rw [hg.block _ hA.1.lt (by simp)]; exact hA.1
  have hB1 : Below w.heap.size w w1 := hA.2.2.grown hg hA.2.2.size (fun k hk => by cases hk; omega)
  clear hA hg
  go_wp2_with fail
  refine (hsum_any l hl (w.heap.size + 1) _ hA1 ?_ ?_).mono ?_
  · exact Nat.lt_of_lt_of_le hc hB1.size
  · exact fun i hi => (hB1.cell (p := ⟨0, i, none⟩) hc).trans (Hk.out i hi)
  rintro e w2 ⟨rfl, hb2⟩
  rw [Hde.out]
  have hR2 := hR1.below hb2 hR1.lt
  have hB2 := hB1.trans (hb2.mono hB1.size)
  clear hA1 hR1 hB1 hb2
  go_wp2_with ((with_reducible refine at_st 24 (.tmp 2) (.tmp 6) ?_); refine wpList_store_row rfl 24 (.tmp 2) (.tmp 6) rfl w.heap.size (d.map V8).toArray rfl rfl 24 (List.replicate 32 (V8 0)).toArray hR2 (info24 d Hd.out) (by rw [List.size_toArray, List.size_toArray, List.length_map, Hd.out]; rfl) (v8_one _) ?_)
  exact bodyPost_ret (v := Dv d) (results_cell_row rfl _ _ w.heap.size 24 _ _ _ rfl (setRow_heap _ _ _ _ _ _ hR2) Tryd.underlying24 rfl (info24 d Hd.out)) rfl ⟨rfl, below_setRow hB2 (Nat.le_refl _) _⟩
end Go.Proofs.YteehpfccegnjjaaDoor
