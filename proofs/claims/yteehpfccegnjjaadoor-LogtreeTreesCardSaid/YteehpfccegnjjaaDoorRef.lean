/-
  The contracts of the reference's Leaf, Node and Empty.
-/
import Derived.Test.YteehpfccegnjjaaDoorPair
namespace Go.Proofs.YteehpfccegnjjaaDoor
open Go Go.RowKit
theorem pair_la (a b : List UInt8) (ha : a.length = 32) (hb : b.length = 32) (va vb : Value) (hA : Dv a = va) (hB : Dv b = vb) (w : World) :
    Calls Tryd.prog 48 #[va, vb] w fun e w' => e = .returned (.string (bs (Sha.join 1 [a, b]))) ∧ Below w.heap.size w w' := by rw [← hA, ← hB]; exact pair_any a b ha hb w

set_option maxRecDepth 100000 in
set_option maxHeartbeats 4000000 in
theorem nodeR_any (a b : List UInt8) (ha : a.length = 32) (hb : b.length = 32) (w : World) :
    Calls Tryd.prog 18 #[Dv a, Dv b] w fun e w' => e = .returned (Dv (Sha.node a b)) ∧ Below w.heap.size w w' := by
  obtain ⟨la, hA, -, hal, hao⟩ := v8_list a ha
  obtain ⟨lb, hB, -, hbl, hbo⟩ := v8_list b hb
  have hd : (Sha.node a b).length = 32 := Sha.sum_length _
  have hde : Sha.sum (Sha.join 1 [a, b]) = Sha.node a b := rfl
  generalize Sha.node a b = d at hd hde
  have Hde := Lib.hid hde; clear hde
  obtain ⟨ld, hD, -, hdl, hdo⟩ := v8_list d hd
  have HD := Lib.hid hD; clear hD
  have Hd := Lib.hid hd; clear hd
  have hjl : (Sha.join 1 [a, b]).length ≤ 4294967296 := Nat.le_trans (join_len 1 [a, b] (by simp) (by simp [ha, hb])) (by decide)
  have h0 := arr3 w 23 la lb (List.replicate 32 (V8 0))
  have hda := hA; have hdb := hB
  rw [hA, hB]
  have HA := Lib.hid hda; have HB := Lib.hid hdb; clear hda hdb hA hB
  have ⟨h1, h2, h3, h4, h5⟩ := h0
  clear h0
  have hu := Tryd.underlying23
  have hi : (Tryd.prog.info? 23).map (·.size) = some la.toArray.size := by rw [List.size_toArray, hal]; kernel_rfl
  have hi2 : (Tryd.prog.info? 23).map (·.size) = some lb.toArray.size := by rw [List.size_toArray, hbl]; kernel_rfl
  have hi3 : (Tryd.prog.info? 23).map (·.size) = some ld.toArray.size := by rw [List.size_toArray, hdl]; kernel_rfl
  have H1 := Lib.hid h1; have H2 := Lib.hid h2; have H3 := Lib.hid h3; have H4 := Lib.hid h4; have H5 := Lib.hid h5; have HU := Lib.hid hu; have HI := Lib.hid hi; have HI2 := Lib.hid hi2; have HI3 := Lib.hid hi3
  clear h1 h2 h3 h4 h5 hu hi hi2 hi3 hal hbl
  go_enter Tryd.func18, Tryd.ntmps18
  go_wp2_with (first | ((with_reducible refine at_ld 23 (.tmp 2) ?_); refine wpList_load_row rfl 23 (.tmp 2) rfl w.heap.size rfl 23 la.toArray (0, 0) _ H1.out HU.out rfl HI.out ?_) | ((with_reducible refine at_ld 23 (.tmp 3) ?_); refine wpList_load_row rfl 23 (.tmp 3) rfl (w.heap.size + 1) rfl 23 lb.toArray (0, 0) _ H2.out HU.out rfl HI2.out ?_))
  have h3 := H3.out; have h4 := H4.out; have h5 := H5.out
  have hu := HU.out; have hi3 := HI3.out
  change Calls _ _ _ (((w.alloc (.cells la.toArray 23)).alloc (.cells lb.toArray 23)).alloc (.cells (List.replicate 32 (V8 0)).toArray 23)) _
  generalize ((w.alloc (.cells la.toArray 23)).alloc (.cells lb.toArray 23)).alloc (.cells (List.replicate 32 (V8 0)).toArray 23) = w0 at *
  generalize hAe : w.heap.size = A at *
  refine (pair_la a b ha hb _ _ HA.out HB.out _).mono ?_
  rintro e w1 ⟨rfl, hb1⟩
  have hB1 := h4.trans (hb1.mono (by omega))
  have h31 := h3.below hb1 h3.lt
  have hs1 := hb1.size
  clear hb1 h3 h4
  go_wp2_with fail
  refine (sumR_any _ hjl _).mono ?_
  rintro e w2 ⟨rfl, hb2⟩
  rw [Hde.out, HD.out]
  have hB2 := hB1.trans (hb2.mono (by omega))
  have h32 := h31.below hb2 h31.lt
  clear hb2 hB1 h31
  go_wp2_with ((with_reducible refine at_st 23 (.tmp 4) (.tmp 8) ?_); refine wpList_store_row rfl 23 (.tmp 4) (.tmp 8) rfl (A + 1 + 1) ld.toArray rfl rfl 23 (List.replicate 32 (V8 0)).toArray h32 hi3 (by rw [List.size_toArray, List.size_toArray, hdl]; rfl) (all_oneCell_toArray hdo) ?_)
  exact bodyPost_ret (v := .agg ld.toArray) (results_cell_row rfl _ _ (A + 1 + 1) 23 _ _ _ rfl (setRow_heap _ _ _ _ _ _ h32) hu rfl hi3) rfl ⟨by rw [HD.out], by (try rw [hAe]); exact below_setRow hB2 (by omega) _⟩
set_option maxRecDepth 100000 in
set_option maxHeartbeats 4000000 in
theorem leafR_any (s : List UInt8) (hs : s.length ≤ 300) (w : World) :
    Calls Tryd.prog 16 #[.string (bs s)] w fun e w' => e = .returned (Dv (Sha.leaf s)) ∧ Below w.heap.size w w' := by
  have hd : (Sha.leaf s).length = 32 := Sha.sum_length _
  have hde : Sha.tagged 0 [s] = Sha.leaf s := rfl
  generalize Sha.leaf s = d at hd hde
  have Hde := Lib.hid hde; clear hde
  have Hd := Lib.hid hd; clear hd
  go_enter Tryd.func16, Tryd.ntmps16
  go_wp2_with fail
  have hA := arr2 w 23 9 (List.replicate 32 (V8 0)) [.string (bs s)]
  refine (taggedR_any 0 [s] (by simp) (by simpa using hs) _ _ ?_).mono ?_
  · exact .inr ⟨_, 0, 1, rfl, hA.2.1.lt, fun j hj => by obtain rfl : j = 0 := by simpa using hj
                                                        exact hA.2.1.cell 0⟩
  rintro e w2 ⟨rfl, hb2⟩
  rw [Hde.out]
  have hA2 := hA.1.below hb2 hA.1.lt
  have hB2 := hA.2.2.trans (hb2.mono hA.2.2.size)
  clear hA hb2
  go_wp2_with ((with_reducible refine at_st 23 (.tmp 2) (.tmp 5) ?_); refine wpList_store_row rfl 23 (.tmp 2) (.tmp 5) rfl w.heap.size (d.map V8).toArray rfl rfl 23 (List.replicate 32 (V8 0)).toArray hA2 (infoR d Hd.out) (by rw [List.size_toArray, List.size_toArray, List.length_map, Hd.out]; rfl) (v8_one _) ?_)
  exact bodyPost_ret (v := Dv d) (results_cell_row rfl _ _ w.heap.size 23 _ _ _ rfl (setRow_heap _ _ _ _ _ _ hA2) Tryd.underlying23 rfl (infoR d Hd.out)) rfl ⟨rfl, below_setRow hB2 (Nat.le_refl _) _⟩
set_option maxRecDepth 100000 in
set_option maxHeartbeats 4000000 in
theorem emptyR_any (w : World) :
    Calls Tryd.prog 20 #[] w fun e w' => e = .returned (Dv Sha.empty) ∧ Below w.heap.size w w' := by
  have hd : (Sha.empty).length = 32 := Sha.sum_length _
  have hde : Sha.tagged 2 [] = Sha.empty := rfl
  generalize Sha.empty = d at hd hde
  have Hde := Lib.hid hde; clear hde
  have Hd := Lib.hid hd; clear hd
  go_enter Tryd.func20, Tryd.ntmps20
  go_wp2_with fail
  have hA := Arr.new w 23 (List.replicate 32 (V8 0))
  have hB : Below w.heap.size w (w.alloc (.cells (List.replicate 32 (V8 0)).toArray 23)) := (Below.refl _ _).alloc (Nat.le_refl _) _
  refine (taggedR_any 2 [] (by simp) (by simp) _ _ (.inl ⟨rfl, rfl⟩)).mono ?_
  rintro e w2 ⟨rfl, hb2⟩
  rw [Hde.out]
  have hA2 := hA.below hb2 hA.lt
  have hB2 := hB.trans (hb2.mono hB.size)
  clear hA hB hb2
  go_wp2_with ((with_reducible refine at_st 23 (.tmp 0) (.tmp 1) ?_); refine wpList_store_row rfl 23 (.tmp 0) (.tmp 1) rfl w.heap.size (d.map V8).toArray rfl rfl 23 (List.replicate 32 (V8 0)).toArray hA2 (infoR d Hd.out) (by rw [List.size_toArray, List.size_toArray, List.length_map, Hd.out]; rfl) (v8_one _) ?_)
  exact bodyPost_ret (v := Dv d) (results_cell_row rfl _ _ w.heap.size 23 _ _ _ rfl (setRow_heap _ _ _ _ _ _ hA2) Tryd.underlying23 rfl (infoR d Hd.out)) rfl ⟨rfl, below_setRow hB2 (Nat.le_refl _) _⟩
end Go.Proofs.YteehpfccegnjjaaDoor
