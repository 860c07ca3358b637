/-
  The contracts of logtree's text, Leaf, Node and Empty, and of the reference's.
-/
import Derived.Test.YteehpfccegnjjaaDoorJoin
import Derived.Deep.RegionHeld3
import Derived.Deep.MidRow
import Derived.Deep.DrawnRows
namespace Go.Proofs.YteehpfccegnjjaaDoor.Sha
def leaf (s : List UInt8) : List UInt8 := tagged 0 [s]
def node (a b : List UInt8) : List UInt8 := tagged 1 [a, b]
def empty : List UInt8 := tagged 2 []
theorem leaf_length (s : List UInt8) : (leaf s).length = 32 := sum_length _
theorem node_length (a b : List UInt8) : (node a b).length = 32 := sum_length _
theorem empty_length : empty.length = 32 := sum_length _
end Go.Proofs.YteehpfccegnjjaaDoor.Sha
namespace Go.Proofs.YteehpfccegnjjaaDoor
open Go Go.RowKit

theorem dv_cells (d : List UInt8) (hd : d.length = 32) : ∃ cs : Array Value, Dv d = .agg cs ∧ cs.size = 32 ∧ cs = (d.map V8).toArray := ⟨_, rfl, by simp [hd], rfl⟩
theorem Arr.bytes {w : World} {b : Nat} {T : TypeId} {d : List UInt8} (h : Arr w b T (d.map V8)) : Bytes w b 0 d := by
  intro j hj
  rw [Nat.zero_add, h.cell j]
  simp [hj]
theorem new_bytes (w : World) (T : TypeId) (d : List UInt8) (cs : Array Value) (h : cs = (d.map V8).toArray) : Bytes (w.alloc (.cells cs T)) w.heap.size 0 d := by
  subst h
  exact (Arr.new w T (d.map V8)).bytes

set_option maxRecDepth 100000 in
set_option maxHeartbeats 4000000 in
theorem text_any (d : List UInt8) (hd : d.length = 32) (w : World) :
    Calls Tryd.prog 47 #[Dv d] w fun e w' => e = .returned (.string (bs d)) ∧ Below w.heap.size w w' := by
  obtain ⟨cs, hcs, hsz, hcl⟩ := dv_cells d hd
  have Hd := Lib.hid hd; clear hd
  rw [hcs]
  clear hcs
  have Hcl := Lib.hid hcl; clear hcl
  go_enter Tryd.func47, Tryd.ntmps47
  go_wp2_with ((with_reducible refine at_conv 98 9 (.tmp 3) ?_); refine wpList_toStr rfl 98 9 (.tmp 3) rfl _ rfl (bs d) (run_toStr _ _ _ _ Tryd.underlying98 Tryd.underlying5 Tryd.underlying9 w.heap.size 0 32 d 32 Hd.out.symm (new_bytes _ _ _ _ Hcl.out)) ?_)
  go_ret
  exact ⟨rfl, (Below.refl _ _).alloc (Nat.le_refl _) _⟩
set_option maxRecDepth 100000 in
set_option maxHeartbeats 4000000 in
theorem textR_any (d : List UInt8) (hd : d.length = 32) (w : World) :
    Calls Tryd.prog 68 #[Dv d] w fun e w' => e = .returned (.string (bs d)) ∧ Below w.heap.size w w' := by
  obtain ⟨cs, hcs, hsz, hcl⟩ := dv_cells d hd
  have Hd := Lib.hid hd; clear hd
  rw [hcs]
  clear hcs
  have Hcl := Lib.hid hcl; clear hcl
  go_enter Tryd.func68, Tryd.ntmps68
  go_wp2_with ((with_reducible refine at_conv 98 9 (.tmp 3) ?_); refine wpList_toStr rfl 98 9 (.tmp 3) rfl _ rfl (bs d) (run_toStr _ _ _ _ Tryd.underlying98 Tryd.underlying5 Tryd.underlying9 w.heap.size 0 32 d 32 Hd.out.symm (new_bytes _ _ _ _ Hcl.out)) ?_)
  go_ret
  exact ⟨rfl, (Below.refl _ _).alloc (Nat.le_refl _) _⟩
set_option maxRecDepth 100000 in
set_option maxHeartbeats 4000000 in
theorem leaf_any (s : List UInt8) (hs : s.length ≤ 300) (w : World) (hK : KT w) :
    Calls Tryd.prog 12 #[.string (bs s)] w fun e w' => e = .returned (Dv (Sha.leaf s)) ∧ Below w.heap.size w w' := by
  have Hk := Lib.hid hK; clear hK
  have hd : (Sha.leaf s).length = 32 := Sha.sum_length _
  have hde : Sha.tagged 0 [s] = Sha.leaf s := rfl
  generalize Sha.leaf s = d at hd hde
  have Hde := Lib.hid hde; clear hde
  have Hd := Lib.hid hd; clear hd
  go_enter Tryd.func12, Tryd.ntmps12
  go_wp2_with fail
  have hA := arr2 w 24 9 (List.replicate 32 (V8 0)) [.string (bs s)]
  refine (tagged_any 0 [s] (by simp) (by simpa using hs) _ _ ?_ ?_).mono ?_
  · exact .inr ⟨_, 0, 1, rfl, hA.2.1.lt, fun j hj => by obtain rfl : j = 0 := by simpa using hj
                                                        exact hA.2.1.cell 0⟩
  · exact Hk.out.below hA.2.2 (Nat.le_refl _)
  rintro e w2 ⟨rfl, hb2⟩
  rw [Hde.out]
  have hA2 := hA.1.below hb2 hA.1.lt
  have hB2 := hA.2.2.trans (hb2.mono hA.2.2.size)
  clear hA hb2
  have hA3 := Arr.new w2 24 (List.replicate 32 (V8 0))
  have hA4 : Arr ((w2.alloc (.cells (List.replicate 32 (V8 0)).toArray 24)).setRow w2.heap.size (d.map V8).toArray) w2.heap.size 24 (d.map V8) := hA3.setRow _
  have hA5 : Arr ((w2.alloc (.cells (List.replicate 32 (V8 0)).toArray 24)).setRow w2.heap.size (d.map V8).toArray) w.heap.size 24 (List.replicate 32 (V8 0)) := (hA2.alloc _).setRow_other _ _ (Nat.ne_of_lt hA2.lt)
  have hB5 : Below w.heap.size w ((w2.alloc (.cells (List.replicate 32 (V8 0)).toArray 24)).setRow w2.heap.size (d.map V8).toArray) := below_setRow (hB2.alloc hB2.size _) hB2.size _
  go_wp2_with (first | ((with_reducible refine at_st 24 (.tmp 3) (.tmp 9) ?_); refine wpList_store_row rfl 24 (.tmp 3) (.tmp 9) rfl w2.heap.size (d.map V8).toArray rfl rfl 24 (List.replicate 32 (V8 0)).toArray hA3 (info24 d Hd.out) (by rw [List.size_toArray, List.size_toArray, List.length_map, Hd.out]; rfl) (v8_one _) ?_) | ((with_reducible refine at_ld 24 (.tmp 3) ?_); refine wpList_load_row rfl 24 (.tmp 3) rfl w2.heap.size rfl 24 (d.map V8).toArray (0, 0) _ hA4 Tryd.underlying24 rfl (info24 d Hd.out) ?_) | ((with_reducible refine at_st 24 (.tmp 2) (.tmp 11) ?_); refine wpList_store_row rfl 24 (.tmp 2) (.tmp 11) rfl w.heap.size (d.map V8).toArray rfl rfl 24 (List.replicate 32 (V8 0)).toArray hA5 (info24 d Hd.out) (by rw [List.size_toArray, List.size_toArray, List.length_map, Hd.out]; rfl) (v8_one _) ?_))
  exact bodyPost_ret (v := Dv d) (results_cell_row rfl _ _ w.heap.size 24 _ _ _ rfl (setRow_heap _ _ _ _ _ _ hA5) Tryd.underlying24 rfl (info24 d Hd.out)) rfl ⟨rfl, below_setRow hB5 (Nat.le_refl _) _⟩
set_option maxRecDepth 100000 in
set_option maxHeartbeats 4000000 in
theorem empty_any (w : World) (hK : KT w) :
    Calls Tryd.prog 19 #[] w fun e w' => e = .returned (Dv Sha.empty) ∧ Below w.heap.size w w' := by
  have Hk := Lib.hid hK; clear hK
  have hd : (Sha.empty).length = 32 := Sha.sum_length _
  have hde : Sha.tagged 2 [] = Sha.empty := rfl
  generalize Sha.empty = d at hd hde
  have Hde := Lib.hid hde; clear hde
  have Hd := Lib.hid hd; clear hd
  go_enter Tryd.func19, Tryd.ntmps19
  go_wp2_with fail
  have hA := Arr.new w 24 (List.replicate 32 (V8 0))
  have hB : Below w.heap.size w (w.alloc (.cells (List.replicate 32 (V8 0)).toArray 24)) := (Below.refl _ _).alloc (Nat.le_refl _) _
  refine (tagged_any 2 [] (by simp) (by simp) _ _ (.inl ⟨rfl, rfl⟩) ?_).mono ?_
  · exact Hk.out.below hB (Nat.le_refl _)
  rintro e w2 ⟨rfl, hb2⟩
  rw [Hde.out]
  have hA2 := hA.below hb2 hA.lt
  have hB2 := hB.trans (hb2.mono hB.size)
  clear hA hB hb2
  have hA3 := Arr.new w2 24 (List.replicate 32 (V8 0))
  have hA4 : Arr ((w2.alloc (.cells (List.replicate 32 (V8 0)).toArray 24)).setRow w2.heap.size (d.map V8).toArray) w2.heap.size 24 (d.map V8) := hA3.setRow _
  have hA5 : Arr ((w2.alloc (.cells (List.replicate 32 (V8 0)).toArray 24)).setRow w2.heap.size (d.map V8).toArray) w.heap.size 24 (List.replicate 32 (V8 0)) := (hA2.alloc _).setRow_other _ _ (Nat.ne_of_lt hA2.lt)
  have hB5 : Below w.heap.size w ((w2.alloc (.cells (List.replicate 32 (V8 0)).toArray 24)).setRow w2.heap.size (d.map V8).toArray) := below_setRow (hB2.alloc hB2.size _) hB2.size _
  go_wp2_with (first | ((with_reducible refine at_st 24 (.tmp 1) (.tmp 5) ?_); refine wpList_store_row rfl 24 (.tmp 1) (.tmp 5) rfl w2.heap.size (d.map V8).toArray rfl rfl 24 (List.replicate 32 (V8 0)).toArray hA3 (info24 d Hd.out) (by rw [List.size_toArray, List.size_toArray, List.length_map, Hd.out]; rfl) (v8_one _) ?_) | ((with_reducible refine at_ld 24 (.tmp 1) ?_); refine wpList_load_row rfl 24 (.tmp 1) rfl w2.heap.size rfl 24 (d.map V8).toArray (0, 0) _ hA4 Tryd.underlying24 rfl (info24 d Hd.out) ?_) | ((with_reducible refine at_st 24 (.tmp 0) (.tmp 7) ?_); refine wpList_store_row rfl 24 (.tmp 0) (.tmp 7) rfl w.heap.size (d.map V8).toArray rfl rfl 24 (List.replicate 32 (V8 0)).toArray hA5 (info24 d Hd.out) (by rw [List.size_toArray, List.size_toArray, List.length_map, Hd.out]; rfl) (v8_one _) ?_))
  exact bodyPost_ret (v := Dv d) (results_cell_row rfl _ _ w.heap.size 24 _ _ _ rfl (setRow_heap _ _ _ _ _ _ hA5) Tryd.underlying24 rfl (info24 d Hd.out)) rfl ⟨rfl, below_setRow hB5 (Nat.le_refl _) _⟩
theorem range_below {w w' : World} {B b o : Nat} {cs : List Value} (h : w.rangeAt b o cs) (hB : Below B w w') (hb : b < B) : w'.rangeAt b o cs := fun j v hv => (hB.cell (p := ⟨b, o + j, none⟩) hb).trans (h j v hv)
theorem there_below {w w' : World} {B b o n : Nat} (h : w.there b o n) (hB : Below B w w') (hb : b < B) : w'.there b o n := fun j hj => by
  rw [hB.cell (p := ⟨b, o + j, none⟩) hb, hB.frozen (p := ⟨b, o + j, none⟩) hb]; exact h j hj
theorem there_new (w : World) (T : TypeId) : (w.alloc (.cells (List.replicate 32 (V8 0)).toArray T)).there w.heap.size 0 32 := fun j hj => by
  have h := Arr.new w T (List.replicate 32 (V8 0))
  rw [Nat.zero_add]
  refine ⟨?_, h.frozen j⟩
  rw [h.cell j, List.getElem?_replicate, if_pos hj]; rfl
theorem below_setCells {B : Nat} {a w : World} (h : Below B a w) {g : Nat} (hg : B ≤ g) (o : Nat) (vs : List Value) : Below B a (w.setCells g o vs) := by
  obtain ⟨r1, r2, r3, r4⟩ := setCells_rest g vs o w
  exact ⟨r1.trans h.os, r2.trans h.tape, r3.trans h.output, by rw [r4]; exact h.size, fun k hk => (heap_setCells_other g vs o w k (by omega)).trans (h.block k hk)⟩
theorem Arr.range {w : World} {b : Nat} {T : TypeId} {l : List Value} (h : Arr w b T l) : w.rangeAt b 0 l := fun j v hv => by rw [Nat.zero_add, h.cell j]; exact hv
theorem v8_list (a : List UInt8) (ha : a.length = 32) : ∃ la : List Value, Dv a = .agg la.toArray ∧ la = a.map V8 ∧ la.length = 32 ∧ ∀ v ∈ la, v.oneCell' = true := by
  refine ⟨a.map V8, rfl, rfl, by simp [ha], fun v hv => ?_⟩
  obtain ⟨x, _, rfl⟩ := List.mem_map.1 hv
  rfl
theorem text_la (d : List UInt8) (hd : d.length = 32) (la : List Value) (h : Dv d = .agg la.toArray) (w : World) :
    Calls Tryd.prog 47 #[.agg la.toArray] w fun e w' => e = .returned (.string (bs d)) ∧ Below w.heap.size w w' := by rw [← h]; exact text_any d hd w
/-- Three blocks made ahead of a region. -/
theorem arr3 (w : World) (T : TypeId) (l1 l2 l3 : List Value) :
    let w0 := ((w.alloc (.cells l1.toArray T)).alloc (.cells l2.toArray T)).alloc (.cells l3.toArray T)
    Arr w0 w.heap.size T l1 ∧ Arr w0 (w.heap.size + 1) T l2 ∧ Arr w0 (w.heap.size + 1 + 1) T l3 ∧ Below w.heap.size w w0 ∧ w0.heap.size = w.heap.size + 1 + 1 + 1 := by
  have h3 := Arr.new ((w.alloc (.cells l1.toArray T)).alloc (.cells l2.toArray T)) T l3
  have h2 := Arr.new (w.alloc (.cells l1.toArray T)) T l2
  rw [show (w.alloc (.cells l1.toArray T)).heap.size = w.heap.size + 1 by simp] at h2
  rw [show ((w.alloc (.cells l1.toArray T)).alloc (.cells l2.toArray T)).heap.size = w.heap.size + 1 + 1 by simp] at h3
  exact ⟨((Arr.new w T l1).alloc _).alloc _, h2.alloc _, h3, (((Below.refl _ _).alloc (Nat.le_refl _) _).alloc (by simp) _).alloc (by simp; omega) _, by simp⟩

theorem strs_two (w : World) (a b : List UInt8) : Strs (w.alloc (.cells #[.string (bs a), .string (bs b)] 9)) (.slice (some ⟨w.heap.size, 0, none⟩) 2 2) [a, b] := by
  have h := Arr.new w 9 [.string (bs a), .string (bs b)]
  refine .inr ⟨_, 0, 2, rfl, h.lt, fun j hj => ?_⟩
  rw [Nat.zero_add]
  refine (h.cell j).trans ?_
  match j, hj with
  | 0, _ => rfl
  | 1, _ => rfl
theorem there_alloc {w : World} {g o n : Nat} (h : w.there g o n) (_ : g < w.heap.size) (ob : Obj) : (w.alloc ob).there g o n := World.there_alloc h ob
theorem kb_all {A : Nat} {w0 w' : World} {la lb : List Value} (R1 : w0.rangeAt A 0 la) (R2 : w0.rangeAt (A + 1) 0 lb) (h : Below (A + 1 + 1 + 1) w0 w') : w'.rangeAt A 0 la ∧ w'.rangeAt (A + 1) 0 lb ∧ Below (A + 1 + 1 + 1) w0 w' :=
  ⟨range_below R1 h (by omega), range_below R2 h (by omega), h⟩
theorem kb_alloc {A : Nat} {w0 w' : World} (h5 : w0.heap.size = A + 1 + 1 + 1) (h : Below (A + 1 + 1 + 1) w0 w') (o : Obj) : Below (A + 1 + 1 + 1) w0 (w'.alloc o) := h.alloc (by have := h.size; omega) o
theorem kb_call {A : Nat} {w0 w' w'' : World} (h5 : w0.heap.size = A + 1 + 1 + 1) (h : Below (A + 1 + 1 + 1) w0 w') (hb : Below w'.heap.size w' w'') : Below (A + 1 + 1 + 1) w0 w'' := h.trans (hb.mono (by have := h.size; omega))

set_option linter.unusedSimpArgs false in
set_option maxRecDepth 100000 in
set_option maxHeartbeats 4000000 in
theorem node_any (a b : List UInt8) (ha : a.length = 32) (hb : b.length = 32) (w : World) (hK : KT w) :
    Calls Tryd.prog 17 #[Dv a, Dv b] w fun e w' => e = .returned (Dv (Sha.node a b)) ∧ Below w.heap.size w w' := by
  have Hk := Lib.hid hK; clear hK
  obtain ⟨la, hA, -, hal, hao⟩ := v8_list a ha
  obtain ⟨lb, hB, -, hbl, hbo⟩ := v8_list b hb
  have hd : (Sha.node a b).length = 32 := Sha.sum_length _
  have hde : Sha.tagged 1 [a, b] = Sha.node a b := rfl
  generalize Sha.node a b = d at hd hde
  have Hde := Lib.hid hde; clear hde
  have hd0 := hd
  have Hd := Lib.hid hd; clear hd
  obtain ⟨ld, hD, -, hdl, hdo⟩ := v8_list d hd0
  have HD := Lib.hid hD; clear hD
  have hlen : ∀ p ∈ [a, b], p.length ≤ 300 := by simp [ha, hb]
  have h0 := arr3 w 24 la lb (List.replicate 32 (V8 0))
  have hda := hA; have hdb := hB
  rw [hA, hB]
  have HA := Lib.hid hda; have HB := Lib.hid hdb; clear hda hdb hA hB
  have H0 := Lib.hid h0; clear h0
  go_enter Tryd.func17, Tryd.ntmps17
  go_wp2_with fail
  have ⟨h1, h2, h3, h4, h5⟩ := H0.out
  have R1 := h1.range
  have R2 := h2.range
  change Code.wp _ _ _ _ (((w.alloc (.cells la.toArray 24)).alloc (.cells lb.toArray 24)).alloc (.cells (List.replicate 32 (V8 0)).toArray 24))
  generalize ((w.alloc (.cells la.toArray 24)).alloc (.cells lb.toArray 24)).alloc (.cells (List.replicate 32 (V8 0)).toArray 24) = w0 at *
  generalize hAe : w.heap.size = A at *
  have hu := Tryd.underlying24
  have hi : (Tryd.prog.info? 24).map (·.size) = some la.length := by rw [hal]; kernel_rfl
  have hi2 : (Tryd.prog.info? 24).map (·.size) = some lb.length := by rw [hbl]; kernel_rfl
  have hb0 := Below.refl (A + 1 + 1 + 1) w0
  have hb1 := hb0.drew
  refine wp_region_held_drew (S := fun w' => Below (A + 1 + 1 + 1) w0 w') (by kernel_rfl) hb1 (fun hH => ?_)
  refine wpAnyH_take (i := 0) rfl (by kernel_rfl) (by kernel_rfl) (by kernel_rfl) (fun _ _ _ h => h) (yieldsIf_load_mid (by rfl) _ _ rfl _ _ rfl la _ (fun w h => range_below R1 h (by omega)) hu rfl hi) hH ?_
  simp only [Act.put, List.setIfInBounds_toArray]
  refine wpAnyH_take (i := 2) rfl (by kernel_rfl) (by kernel_rfl) (by kernel_rfl) (fun _ _ _ h => h) (yieldsIf_load_mid (by rfl) _ _ rfl _ _ rfl lb _ (fun w h => range_below R2 h (by omega)) hu rfl hi2) hH ?_
  simp only [Act.put]
  have hH0 := hH
  have hW0 := Nat.le_trans (Nat.le_of_eq h5.symm) hH0.size
  clear hH hb1 hb0
  generalize w0.drew = W0 at *
  refine wpAnyH_ready (rs := [1, 9]) (by kernel_rfl) (by simp) ?_
  refine AllReadyH.cons rfl (fun K hK => ?_) (AllReadyH.cons rfl (fun K hK => ?_) AllReadyH.nil)
  · rw [if_pos (by rfl)]
    go_simp
    refine (text_la a ha la HA.out _).mono ?_
    rintro e W1 ⟨rfl, hb1⟩
    refine hK.out _ _ (kb_call h5 hH0 hb1) (fun hH1 => ?_)
    clear hK K
    try simp only [Act.put, List.setIfInBounds_toArray, List.set_cons_zero, List.set_cons_succ]
    have hW1 := Nat.le_trans (Nat.le_of_eq h5.symm) hH1.size
    clear hb1 hH0 hW0
    refine wpAnyH_ready (rs := [3, 9]) (by kernel_rfl) (by simp) ?_
    refine AllReadyH.cons rfl (fun K hK => ?_) (AllReadyH.cons rfl (fun K hK => ?_) AllReadyH.nil)
    · rw [if_pos (by rfl)]
      go_simp
      refine (text_la b hb lb HB.out _).mono ?_
      rintro e W2 ⟨rfl, hb2⟩
      refine hK.out _ _ (kb_call h5 hH1 hb2) (fun hH2 => ?_)
      clear hK K
      try simp only [Act.put, List.setIfInBounds_toArray, List.set_cons_zero, List.set_cons_succ]
      have hW2 := Nat.le_trans (Nat.le_of_eq h5.symm) hH2.size
      clear hb2 hH1 hW1
      refine wpAnyH_ready (rs := [4, 9]) (by kernel_rfl) (by simp) ?_
      refine AllReadyH.cons rfl (fun K hK => ?_) (AllReadyH.cons rfl (fun K hK => ?_) AllReadyH.nil)
      · rw [if_pos (by rfl)]
        go_simp
        refine hK.out _ _ (kb_alloc h5 hH2 _) (fun hH3 => ?_)
        clear hK K
        try simp only [Act.put, List.setIfInBounds_toArray, List.set_cons_zero, List.set_cons_succ]
        have hS3 := strs_two W2 a b
        have hq3 : W2.heap.size < (W2.alloc (.cells #[.string (bs a), .string (bs b)] 9)).heap.size := by simp
        clear hH2 hW2
        generalize W2.alloc (.cells #[.string (bs a), .string (bs b)] 9) = W3 at *
        have hW3 := Nat.le_trans (Nat.le_of_eq h5.symm) hH3.size
        clear hq3
        refine wpAnyH_ready (rs := [5, 9]) (by kernel_rfl) (by simp) ?_
        refine AllReadyH.cons rfl (fun K hK => ?_) (AllReadyH.cons rfl (fun K hK => ?_) AllReadyH.nil)
        · rw [if_pos (by rfl)]
          go_simp
          refine (tagged_any 1 [a, b] (by simp) hlen _ _ hS3 (Hk.out.below (h4.trans (hH3.mono (by omega))) (Nat.le_of_eq hAe))).mono ?_
          rintro e W4 ⟨rfl, hb4⟩
          rw [Hde.out, HD.out]
          refine hK.out _ _ (kb_call h5 hH3 hb4) (fun hH4 => ?_)
          clear hK K
          try simp only [Act.put, List.setIfInBounds_toArray, List.set_cons_zero, List.set_cons_succ]
          have hW4 := Nat.le_trans (Nat.le_of_eq h5.symm) hH4.size
          clear hb4 hH3 hW3 hS3
          refine wpAnyH_take (i := 6) (v := ?v5) rfl (by kernel_rfl) (by kernel_rfl) (by kernel_rfl) (fun _ _ _ h => h) (Or.inl ⟨by rfl, ?y5⟩) hH4 ?r5
          case y5 => intro w h; go_simp; with_reducible rfl
          try simp only [Act.put, List.setIfInBounds_toArray, List.set_cons_zero, List.set_cons_succ]
          refine wpAnyH_take (i := 7) (v := ?v6) rfl (by kernel_rfl) (by kernel_rfl) (by kernel_rfl) (fun _ _ _ h => h) (Or.inl ⟨by rfl, ?y6⟩) hH4 ?r6
          case y6 => intro w h; go_simp; with_reducible rfl
          try simp only [Act.put, List.setIfInBounds_toArray, List.set_cons_zero, List.set_cons_succ]
          refine wpAnyH_take (i := 8) (v := ?v7) rfl (by kernel_rfl) (by kernel_rfl) (by kernel_rfl) (fun _ _ _ h => h) (Or.inl ⟨by rfl, ?y7⟩) hH4 ?r7
          case y7 => intro w h; go_simp; with_reducible rfl
          try simp only [Act.put, List.setIfInBounds_toArray, List.set_cons_zero, List.set_cons_succ]
          refine wpAnyH_ready (rs := [9]) (by kernel_rfl) (by simp) ?_
          refine AllReadyH.cons rfl (fun K hK => ?_) AllReadyH.nil
          · rw [if_pos (by rfl)]
            go_simp
            refine hK.out _ _ (kb_alloc h5 hH4 _) (fun hH8 => ?_)
            clear hK K
            try simp only [Act.put, List.setIfInBounds_toArray, List.set_cons_zero, List.set_cons_succ]
            change Below (A + 1 + 1 + 1) w0 (W4.alloc (.cells (List.replicate 32 (V8 0)).toArray 24)) at hH8
            have hT8 := there_new W4 24
            have hgl8 : W4.heap.size < (W4.alloc (.cells (List.replicate 32 (V8 0)).toArray 24)).heap.size := by simp
            have hg : A + 1 + 1 + 1 ≤ W4.heap.size := hW4
            change wpAnyH _ _ _ _ _ _ _ _ (W4.alloc (.cells (List.replicate 32 (V8 0)).toArray 24))
            clear hH4 hW4
            generalize W4.alloc (.cells (List.replicate 32 (V8 0)).toArray 24) = W8 at *
            generalize W4.heap.size = g at *
            have hW8 := Nat.le_trans (Nat.le_of_eq h5.symm) hH8.size
            refine wpAnyH_ready (rs := [10]) (by kernel_rfl) (by simp) ?_
            refine AllReadyH.cons rfl (fun K hK => ?_) AllReadyH.nil
            · rw [if_pos (by rfl)]
              refine wp_store_mid 24 (.tmp 5) (.tmp 14) rfl g 0 ld.toArray rfl rfl (by rw [List.size_toArray, hdl]; exact hT8) (by rw [List.size_toArray, hdl]; kernel_rfl) (all_oneCell_toArray hdo) ?_
              refine hK.out _ _ (below_setCells hH8 hg 0 _) (fun hH9 => ?_)
              clear hK K
              try simp only [Act.put, List.setIfInBounds_toArray, List.set_cons_zero, List.set_cons_succ]
              have hL9 := World.rangeAt_setCells_same W8 g 0 ld (by rw [hdl]; exact hT8)
              clear hT8 hgl8 hH8 hW8
              change wpAnyH _ _ _ _ _ _ _ _ (W8.setCells g 0 ld)
              change Below (A + 1 + 1 + 1) w0 (W8.setCells g 0 ld) at hH9
              generalize W8.setCells g 0 ld = W9 at *
              refine wpAnyH_take (i := 11) (v := ?v10) rfl (by kernel_rfl) (by kernel_rfl) (by kernel_rfl) (fun _ _ _ h => h) (Or.inl ⟨by rfl, ?y10⟩) hH9 ?r10
              case y10 => intro w h; go_simp; with_reducible rfl
              try simp only [Act.put, List.setIfInBounds_toArray, List.set_cons_zero, List.set_cons_succ]
              refine wpAnyH_done (by kernel_rfl) ?_ _
              have hZ := h3.below hH9 (by omega)
              simp only [List.getElem_toArray, List.getElem_cons_succ, List.getElem_cons_zero, Exit.then, Act.put, List.setIfInBounds_toArray, List.set_cons_zero, List.set_cons_succ]
              go_at_K
              go_wp2_with (first | ((with_reducible refine at_ld 24 (.tmp 5) ?_); refine wpList_load_mid rfl 24 (.tmp 5) rfl g 0 rfl ld _ hL9 hu rfl (by rw [hdl]; kernel_rfl) ?_) | ((with_reducible refine at_st 24 (.tmp 4) (.tmp 16) ?_); refine wpList_store_row rfl 24 (.tmp 4) (.tmp 16) rfl (A + 1 + 1) ld.toArray rfl rfl 24 (List.replicate 32 (V8 0)).toArray hZ (by rw [List.size_toArray, hdl]; kernel_rfl) (by rw [List.size_toArray, List.size_toArray, hdl]; rfl) (all_oneCell_toArray hdo) ?_))
              exact bodyPost_ret (v := .agg ld.toArray) (results_cell_row rfl _ _ (A + 1 + 1) 24 _ _ _ rfl (setRow_heap _ _ _ _ _ _ hZ) hu rfl (by rw [List.size_toArray, hdl]; kernel_rfl)) rfl ⟨by rw [HD.out], by (try rw [hAe]); exact below_setRow (h4.trans (hH9.mono (by omega))) (by omega) _⟩
        · rw [if_pos (by rfl)]
          go_simp
          refine hK.out _ _ (kb_alloc h5 hH3 _) (fun hH11 => ?_)
          clear hK K
          try simp only [Act.put, List.setIfInBounds_toArray, List.set_cons_zero, List.set_cons_succ]
          change Below (A + 1 + 1 + 1) w0 (W3.alloc (.cells (List.replicate 32 (V8 0)).toArray 24)) at hH11
          have hT11 := there_new W3 24
          have hgl11 : W3.heap.size < (W3.alloc (.cells (List.replicate 32 (V8 0)).toArray 24)).heap.size := by simp
          have hS11 := hS3.below ((Below.refl _ _).alloc (Nat.le_refl _) (.cells (List.replicate 32 (V8 0)).toArray 24))
          have hg : A + 1 + 1 + 1 ≤ W3.heap.size := hW3
          change wpAnyH _ _ _ _ _ _ _ _ (W3.alloc (.cells (List.replicate 32 (V8 0)).toArray 24))
          clear hH3 hW3 hS3
          generalize W3.alloc (.cells (List.replicate 32 (V8 0)).toArray 24) = W11 at *
          generalize W3.heap.size = g at *
          have hW11 := Nat.le_trans (Nat.le_of_eq h5.symm) hH11.size
          refine wpAnyH_ready (rs := [5]) (by kernel_rfl) (by simp) ?_
          refine AllReadyH.cons rfl (fun K hK => ?_) AllReadyH.nil
          · rw [if_pos (by rfl)]
            go_simp
            refine (tagged_any 1 [a, b] (by simp) hlen _ _ hS11 (Hk.out.below (h4.trans (hH11.mono (by omega))) (Nat.le_of_eq hAe))).mono ?_
            rintro e W12 ⟨rfl, hb12⟩
            rw [Hde.out, HD.out]
            refine hK.out _ _ (kb_call h5 hH11 hb12) (fun hH12 => ?_)
            clear hK K
            try simp only [Act.put, List.setIfInBounds_toArray, List.set_cons_zero, List.set_cons_succ]
            have hW12 := Nat.le_trans (Nat.le_of_eq h5.symm) hH12.size
            have hT12 := there_below hT11 hb12 hgl11
            have hgl12 := Nat.lt_of_lt_of_le hgl11 hb12.size
            clear hT11 hgl11
            clear hb12 hH11 hW11 hS11
            refine wpAnyH_take (i := 6) (v := ?v13) rfl (by kernel_rfl) (by kernel_rfl) (by kernel_rfl) (fun _ _ _ h => h) (Or.inl ⟨by rfl, ?y13⟩) hH12 ?r13
            case y13 => intro w h; go_simp; with_reducible rfl
            try simp only [Act.put, List.setIfInBounds_toArray, List.set_cons_zero, List.set_cons_succ]
            refine wpAnyH_take (i := 7) (v := ?v14) rfl (by kernel_rfl) (by kernel_rfl) (by kernel_rfl) (fun _ _ _ h => h) (Or.inl ⟨by rfl, ?y14⟩) hH12 ?r14
            case y14 => intro w h; go_simp; with_reducible rfl
            try simp only [Act.put, List.setIfInBounds_toArray, List.set_cons_zero, List.set_cons_succ]
            refine wpAnyH_take (i := 8) (v := ?v15) rfl (by kernel_rfl) (by kernel_rfl) (by kernel_rfl) (fun _ _ _ h => h) (Or.inl ⟨by rfl, ?y15⟩) hH12 ?r15
            case y15 => intro w h; go_simp; with_reducible rfl
            try simp only [Act.put, List.setIfInBounds_toArray, List.set_cons_zero, List.set_cons_succ]
            refine wpAnyH_ready (rs := [10]) (by kernel_rfl) (by simp) ?_
            refine AllReadyH.cons rfl (fun K hK => ?_) AllReadyH.nil
            · rw [if_pos (by rfl)]
              refine wp_store_mid 24 (.tmp 5) (.tmp 14) rfl g 0 ld.toArray rfl rfl (by rw [List.size_toArray, hdl]; exact hT12) (by rw [List.size_toArray, hdl]; kernel_rfl) (all_oneCell_toArray hdo) ?_
              refine hK.out _ _ (below_setCells hH12 hg 0 _) (fun hH16 => ?_)
              clear hK K
              try simp only [Act.put, List.setIfInBounds_toArray, List.set_cons_zero, List.set_cons_succ]
              have hL16 := World.rangeAt_setCells_same W12 g 0 ld (by rw [hdl]; exact hT12)
              clear hT12 hgl12 hH12 hW12
              change wpAnyH _ _ _ _ _ _ _ _ (W12.setCells g 0 ld)
              change Below (A + 1 + 1 + 1) w0 (W12.setCells g 0 ld) at hH16
              generalize W12.setCells g 0 ld = W16 at *
              refine wpAnyH_take (i := 11) (v := ?v17) rfl (by kernel_rfl) (by kernel_rfl) (by kernel_rfl) (fun _ _ _ h => h) (Or.inl ⟨by rfl, ?y17⟩) hH16 ?r17
              case y17 => intro w h; go_simp; with_reducible rfl
              try simp only [Act.put, List.setIfInBounds_toArray, List.set_cons_zero, List.set_cons_succ]
              refine wpAnyH_done (by kernel_rfl) ?_ _
              have hZ := h3.below hH16 (by omega)
              simp only [List.getElem_toArray, List.getElem_cons_succ, List.getElem_cons_zero, Exit.then, Act.put, List.setIfInBounds_toArray, List.set_cons_zero, List.set_cons_succ]
              go_at_K
              go_wp2_with (first | ((with_reducible refine at_ld 24 (.tmp 5) ?_); refine wpList_load_mid rfl 24 (.tmp 5) rfl g 0 rfl ld _ hL16 hu rfl (by rw [hdl]; kernel_rfl) ?_) | ((with_reducible refine at_st 24 (.tmp 4) (.tmp 16) ?_); refine wpList_store_row rfl 24 (.tmp 4) (.tmp 16) rfl (A + 1 + 1) ld.toArray rfl rfl 24 (List.replicate 32 (V8 0)).toArray hZ (by rw [List.size_toArray, hdl]; kernel_rfl) (by rw [List.size_toArray, List.size_toArray, hdl]; rfl) (all_oneCell_toArray hdo) ?_))
              exact bodyPost_ret (v := .agg ld.toArray) (results_cell_row rfl _ _ (A + 1 + 1) 24 _ _ _ rfl (setRow_heap _ _ _ _ _ _ hZ) hu rfl (by rw [List.size_toArray, hdl]; kernel_rfl)) rfl ⟨by rw [HD.out], by (try rw [hAe]); exact below_setRow (h4.trans (hH16.mono (by omega))) (by omega) _⟩
      · rw [if_pos (by rfl)]
        go_simp
        refine hK.out _ _ (kb_alloc h5 hH2 _) (fun hH18 => ?_)
        clear hK K
        try simp only [Act.put, List.setIfInBounds_toArray, List.set_cons_zero, List.set_cons_succ]
        change Below (A + 1 + 1 + 1) w0 (W2.alloc (.cells (List.replicate 32 (V8 0)).toArray 24)) at hH18
        have hT18 := there_new W2 24
        have hgl18 : W2.heap.size < (W2.alloc (.cells (List.replicate 32 (V8 0)).toArray 24)).heap.size := by simp
        have hg : A + 1 + 1 + 1 ≤ W2.heap.size := hW2
        change wpAnyH _ _ _ _ _ _ _ _ (W2.alloc (.cells (List.replicate 32 (V8 0)).toArray 24))
        clear hH2 hW2
        generalize W2.alloc (.cells (List.replicate 32 (V8 0)).toArray 24) = W18 at *
        generalize W2.heap.size = g at *
        have hW18 := Nat.le_trans (Nat.le_of_eq h5.symm) hH18.size
        refine wpAnyH_ready (rs := [4]) (by kernel_rfl) (by simp) ?_
        refine AllReadyH.cons rfl (fun K hK => ?_) AllReadyH.nil
        · rw [if_pos (by rfl)]
          go_simp
          refine hK.out _ _ (kb_alloc h5 hH18 _) (fun hH19 => ?_)
          clear hK K
          try simp only [Act.put, List.setIfInBounds_toArray, List.set_cons_zero, List.set_cons_succ]
          have hS19 := strs_two W18 a b
          have hq19 : W18.heap.size < (W18.alloc (.cells #[.string (bs a), .string (bs b)] 9)).heap.size := by simp
          have hT19 := there_alloc hT18 hgl18 (.cells #[.string (bs a), .string (bs b)] 9)
          have hgl19 := Nat.lt_trans hgl18 hq19
          clear hH18 hW18 hT18 hgl18
          generalize W18.alloc (.cells #[.string (bs a), .string (bs b)] 9) = W19 at *
          have hW19 := Nat.le_trans (Nat.le_of_eq h5.symm) hH19.size
          clear hq19
          refine wpAnyH_ready (rs := [5]) (by kernel_rfl) (by simp) ?_
          refine AllReadyH.cons rfl (fun K hK => ?_) AllReadyH.nil
          · rw [if_pos (by rfl)]
            go_simp
            refine (tagged_any 1 [a, b] (by simp) hlen _ _ hS19 (Hk.out.below (h4.trans (hH19.mono (by omega))) (Nat.le_of_eq hAe))).mono ?_
            rintro e W20 ⟨rfl, hb20⟩
            rw [Hde.out, HD.out]
            refine hK.out _ _ (kb_call h5 hH19 hb20) (fun hH20 => ?_)
            clear hK K
            try simp only [Act.put, List.setIfInBounds_toArray, List.set_cons_zero, List.set_cons_succ]
            have hW20 := Nat.le_trans (Nat.le_of_eq h5.symm) hH20.size
            have hT20 := there_below hT19 hb20 hgl19
            have hgl20 := Nat.lt_of_lt_of_le hgl19 hb20.size
            clear hT19 hgl19
            clear hb20 hH19 hW19 hS19
            refine wpAnyH_take (i := 6) (v := ?v21) rfl (by kernel_rfl) (by kernel_rfl) (by kernel_rfl) (fun _ _ _ h => h) (Or.inl ⟨by rfl, ?y21⟩) hH20 ?r21
            case y21 => intro w h; go_simp; with_reducible rfl
            try simp only [Act.put, List.setIfInBounds_toArray, List.set_cons_zero, List.set_cons_succ]
            refine wpAnyH_take (i := 7) (v := ?v22) rfl (by kernel_rfl) (by kernel_rfl) (by kernel_rfl) (fun _ _ _ h => h) (Or.inl ⟨by rfl, ?y22⟩) hH20 ?r22
            case y22 => intro w h; go_simp; with_reducible rfl
            try simp only [Act.put, List.setIfInBounds_toArray, List.set_cons_zero, List.set_cons_succ]
            refine wpAnyH_take (i := 8) (v := ?v23) rfl (by kernel_rfl) (by kernel_rfl) (by kernel_rfl) (fun _ _ _ h => h) (Or.inl ⟨by rfl, ?y23⟩) hH20 ?r23
            case y23 => intro w h; go_simp; with_reducible rfl
            try simp only [Act.put, List.setIfInBounds_toArray, List.set_cons_zero, List.set_cons_succ]
            refine wpAnyH_ready (rs := [10]) (by kernel_rfl) (by simp) ?_
            refine AllReadyH.cons rfl (fun K hK => ?_) AllReadyH.nil
            · rw [if_pos (by rfl)]
              refine wp_store_mid 24 (.tmp 5) (.tmp 14) rfl g 0 ld.toArray rfl rfl (by rw [List.size_toArray, hdl]; exact hT20) (by rw [List.size_toArray, hdl]; kernel_rfl) (all_oneCell_toArray hdo) ?_
              refine hK.out _ _ (below_setCells hH20 hg 0 _) (fun hH24 => ?_)
              clear hK K
              try simp only [Act.put, List.setIfInBounds_toArray, List.set_cons_zero, List.set_cons_succ]
              have hL24 := World.rangeAt_setCells_same W20 g 0 ld (by rw [hdl]; exact hT20)
              clear hT20 hgl20 hH20 hW20
              change wpAnyH _ _ _ _ _ _ _ _ (W20.setCells g 0 ld)
              change Below (A + 1 + 1 + 1) w0 (W20.setCells g 0 ld) at hH24
              generalize W20.setCells g 0 ld = W24 at *
              refine wpAnyH_take (i := 11) (v := ?v25) rfl (by kernel_rfl) (by kernel_rfl) (by kernel_rfl) (fun _ _ _ h => h) (Or.inl ⟨by rfl, ?y25⟩) hH24 ?r25
              case y25 => intro w h; go_simp; with_reducible rfl
              try simp only [Act.put, List.setIfInBounds_toArray, List.set_cons_zero, List.set_cons_succ]
              refine wpAnyH_done (by kernel_rfl) ?_ _
              have hZ := h3.below hH24 (by omega)
              simp only [List.getElem_toArray, List.getElem_cons_succ, List.getElem_cons_zero, Exit.then, Act.put, List.setIfInBounds_toArray, List.set_cons_zero, List.set_cons_succ]
              go_at_K
              go_wp2_with (first | ((with_reducible refine at_ld 24 (.tmp 5) ?_); refine wpList_load_mid rfl 24 (.tmp 5) rfl g 0 rfl ld _ hL24 hu rfl (by rw [hdl]; kernel_rfl) ?_) | ((with_reducible refine at_st 24 (.tmp 4) (.tmp 16) ?_); refine wpList_store_row rfl 24 (.tmp 4) (.tmp 16) rfl (A + 1 + 1) ld.toArray rfl rfl 24 (List.replicate 32 (V8 0)).toArray hZ (by rw [List.size_toArray, hdl]; kernel_rfl) (by rw [List.size_toArray, List.size_toArray, hdl]; rfl) (all_oneCell_toArray hdo) ?_))
              exact bodyPost_ret (v := .agg ld.toArray) (results_cell_row rfl _ _ (A + 1 + 1) 24 _ _ _ rfl (setRow_heap _ _ _ _ _ _ hZ) hu rfl (by rw [List.size_toArray, hdl]; kernel_rfl)) rfl ⟨by rw [HD.out], by (try rw [hAe]); exact below_setRow (h4.trans (hH24.mono (by omega))) (by omega) _⟩
    · rw [if_pos (by rfl)]
      go_simp
      refine hK.out _ _ (kb_alloc h5 hH1 _) (fun hH26 => ?_)
      clear hK K
      try simp only [Act.put, List.setIfInBounds_toArray, List.set_cons_zero, List.set_cons_succ]
      change Below (A + 1 + 1 + 1) w0 (W1.alloc (.cells (List.replicate 32 (V8 0)).toArray 24)) at hH26
      have hT26 := there_new W1 24
      have hgl26 : W1.heap.size < (W1.alloc (.cells (List.replicate 32 (V8 0)).toArray 24)).heap.size := by simp
      have hg : A + 1 + 1 + 1 ≤ W1.heap.size := hW1
      change wpAnyH _ _ _ _ _ _ _ _ (W1.alloc (.cells (List.replicate 32 (V8 0)).toArray 24))
      clear hH1 hW1
      generalize W1.alloc (.cells (List.replicate 32 (V8 0)).toArray 24) = W26 at *
      generalize W1.heap.size = g at *
      have hW26 := Nat.le_trans (Nat.le_of_eq h5.symm) hH26.size
      refine wpAnyH_ready (rs := [3]) (by kernel_rfl) (by simp) ?_
      refine AllReadyH.cons rfl (fun K hK => ?_) AllReadyH.nil
      · rw [if_pos (by rfl)]
        go_simp
        refine (text_la b hb lb HB.out _).mono ?_
        rintro e W27 ⟨rfl, hb27⟩
        refine hK.out _ _ (kb_call h5 hH26 hb27) (fun hH27 => ?_)
        clear hK K
        try simp only [Act.put, List.setIfInBounds_toArray, List.set_cons_zero, List.set_cons_succ]
        have hW27 := Nat.le_trans (Nat.le_of_eq h5.symm) hH27.size
        have hT27 := there_below hT26 hb27 hgl26
        have hgl27 := Nat.lt_of_lt_of_le hgl26 hb27.size
        clear hT26 hgl26
        clear hb27 hH26 hW26
        refine wpAnyH_ready (rs := [4]) (by kernel_rfl) (by simp) ?_
        refine AllReadyH.cons rfl (fun K hK => ?_) AllReadyH.nil
        · rw [if_pos (by rfl)]
          go_simp
          refine hK.out _ _ (kb_alloc h5 hH27 _) (fun hH28 => ?_)
          clear hK K
          try simp only [Act.put, List.setIfInBounds_toArray, List.set_cons_zero, List.set_cons_succ]
          have hS28 := strs_two W27 a b
          have hq28 : W27.heap.size < (W27.alloc (.cells #[.string (bs a), .string (bs b)] 9)).heap.size := by simp
          have hT28 := there_alloc hT27 hgl27 (.cells #[.string (bs a), .string (bs b)] 9)
          have hgl28 := Nat.lt_trans hgl27 hq28
          clear hH27 hW27 hT27 hgl27
          generalize W27.alloc (.cells #[.string (bs a), .string (bs b)] 9) = W28 at *
          have hW28 := Nat.le_trans (Nat.le_of_eq h5.symm) hH28.size
          clear hq28
          refine wpAnyH_ready (rs := [5]) (by kernel_rfl) (by simp) ?_
          refine AllReadyH.cons rfl (fun K hK => ?_) AllReadyH.nil
          · rw [if_pos (by rfl)]
            go_simp
            refine (tagged_any 1 [a, b] (by simp) hlen _ _ hS28 (Hk.out.below (h4.trans (hH28.mono (by omega))) (Nat.le_of_eq hAe))).mono ?_
            rintro e W29 ⟨rfl, hb29⟩
            rw [Hde.out, HD.out]
            refine hK.out _ _ (kb_call h5 hH28 hb29) (fun hH29 => ?_)
            clear hK K
            try simp only [Act.put, List.setIfInBounds_toArray, List.set_cons_zero, List.set_cons_succ]
            have hW29 := Nat.le_trans (Nat.le_of_eq h5.symm) hH29.size
            have hT29 := there_below hT28 hb29 hgl28
            have hgl29 := Nat.lt_of_lt_of_le hgl28 hb29.size
            clear hT28 hgl28
            clear hb29 hH28 hW28 hS28
            refine wpAnyH_take (i := 6) (v := ?v30) rfl (by kernel_rfl) (by kernel_rfl) (by kernel_rfl) (fun _ _ _ h => h) (Or.inl ⟨by rfl, ?y30⟩) hH29 ?r30
            case y30 => intro w h; go_simp; with_reducible rfl
            try simp only [Act.put, List.setIfInBounds_toArray, List.set_cons_zero, List.set_cons_succ]
            refine wpAnyH_take (i := 7) (v := ?v31) rfl (by kernel_rfl) (by kernel_rfl) (by kernel_rfl) (fun _ _ _ h => h) (Or.inl ⟨by rfl, ?y31⟩) hH29 ?r31
            case y31 => intro w h; go_simp; with_reducible rfl
            try simp only [Act.put, List.setIfInBounds_toArray, List.set_cons_zero, List.set_cons_succ]
            refine wpAnyH_take (i := 8) (v := ?v32) rfl (by kernel_rfl) (by kernel_rfl) (by kernel_rfl) (fun _ _ _ h => h) (Or.inl ⟨by rfl, ?y32⟩) hH29 ?r32
            case y32 => intro w h; go_simp; with_reducible rfl
            try simp only [Act.put, List.setIfInBounds_toArray, List.set_cons_zero, List.set_cons_succ]
            refine wpAnyH_ready (rs := [10]) (by kernel_rfl) (by simp) ?_
            refine AllReadyH.cons rfl (fun K hK => ?_) AllReadyH.nil
            · rw [if_pos (by rfl)]
              refine wp_store_mid 24 (.tmp 5) (.tmp 14) rfl g 0 ld.toArray rfl rfl (by rw [List.size_toArray, hdl]; exact hT29) (by rw [List.size_toArray, hdl]; kernel_rfl) (all_oneCell_toArray hdo) ?_
              refine hK.out _ _ (below_setCells hH29 hg 0 _) (fun hH33 => ?_)
              clear hK K
              try simp only [Act.put, List.setIfInBounds_toArray, List.set_cons_zero, List.set_cons_succ]
              have hL33 := World.rangeAt_setCells_same W29 g 0 ld (by rw [hdl]; exact hT29)
              clear hT29 hgl29 hH29 hW29
              change wpAnyH _ _ _ _ _ _ _ _ (W29.setCells g 0 ld)
              change Below (A + 1 + 1 + 1) w0 (W29.setCells g 0 ld) at hH33
              generalize W29.setCells g 0 ld = W33 at *
              refine wpAnyH_take (i := 11) (v := ?v34) rfl (by kernel_rfl) (by kernel_rfl) (by kernel_rfl) (fun _ _ _ h => h) (Or.inl ⟨by rfl, ?y34⟩) hH33 ?r34
              case y34 => intro w h; go_simp; with_reducible rfl
              try simp only [Act.put, List.setIfInBounds_toArray, List.set_cons_zero, List.set_cons_succ]
              refine wpAnyH_done (by kernel_rfl) ?_ _
              have hZ := h3.below hH33 (by omega)
              simp only [List.getElem_toArray, List.getElem_cons_succ, List.getElem_cons_zero, Exit.then, Act.put, List.setIfInBounds_toArray, List.set_cons_zero, List.set_cons_succ]
              go_at_K
              go_wp2_with (first | ((with_reducible refine at_ld 24 (.tmp 5) ?_); refine wpList_load_mid rfl 24 (.tmp 5) rfl g 0 rfl ld _ hL33 hu rfl (by rw [hdl]; kernel_rfl) ?_) | ((with_reducible refine at_st 24 (.tmp 4) (.tmp 16) ?_); refine wpList_store_row rfl 24 (.tmp 4) (.tmp 16) rfl (A + 1 + 1) ld.toArray rfl rfl 24 (List.replicate 32 (V8 0)).toArray hZ (by rw [List.size_toArray, hdl]; kernel_rfl) (by rw [List.size_toArray, List.size_toArray, hdl]; rfl) (all_oneCell_toArray hdo) ?_))
              exact bodyPost_ret (v := .agg ld.toArray) (results_cell_row rfl _ _ (A + 1 + 1) 24 _ _ _ rfl (setRow_heap _ _ _ _ _ _ hZ) hu rfl (by rw [List.size_toArray, hdl]; kernel_rfl)) rfl ⟨by rw [HD.out], by (try rw [hAe]); exact below_setRow (h4.trans (hH33.mono (by omega))) (by omega) _⟩
  · rw [if_pos (by rfl)]
    go_simp
    refine hK.out _ _ (kb_alloc h5 hH0 _) (fun hH35 => ?_)
    clear hK K
    try simp only [Act.put, List.setIfInBounds_toArray, List.set_cons_zero, List.set_cons_succ]
    change Below (A + 1 + 1 + 1) w0 (W0.alloc (.cells (List.replicate 32 (V8 0)).toArray 24)) at hH35
    have hT35 := there_new W0 24
    have hgl35 : W0.heap.size < (W0.alloc (.cells (List.replicate 32 (V8 0)).toArray 24)).heap.size := by simp
    have hg : A + 1 + 1 + 1 ≤ W0.heap.size := hW0
    change wpAnyH _ _ _ _ _ _ _ _ (W0.alloc (.cells (List.replicate 32 (V8 0)).toArray 24))
    clear hH0 hW0
    generalize W0.alloc (.cells (List.replicate 32 (V8 0)).toArray 24) = W35 at *
    generalize W0.heap.size = g at *
    have hW35 := Nat.le_trans (Nat.le_of_eq h5.symm) hH35.size
    refine wpAnyH_ready (rs := [1]) (by kernel_rfl) (by simp) ?_
    refine AllReadyH.cons rfl (fun K hK => ?_) AllReadyH.nil
    · rw [if_pos (by rfl)]
      go_simp
      refine (text_la a ha la HA.out _).mono ?_
      rintro e W36 ⟨rfl, hb36⟩
      refine hK.out _ _ (kb_call h5 hH35 hb36) (fun hH36 => ?_)
      clear hK K
      try simp only [Act.put, List.setIfInBounds_toArray, List.set_cons_zero, List.set_cons_succ]
      have hW36 := Nat.le_trans (Nat.le_of_eq h5.symm) hH36.size
      have hT36 := there_below hT35 hb36 hgl35
      have hgl36 := Nat.lt_of_lt_of_le hgl35 hb36.size
      clear hT35 hgl35
      clear hb36 hH35 hW35
      refine wpAnyH_ready (rs := [3]) (by kernel_rfl) (by simp) ?_
      refine AllReadyH.cons rfl (fun K hK => ?_) AllReadyH.nil
      · rw [if_pos (by rfl)]
        go_simp
        refine (text_la b hb lb HB.out _).mono ?_
        rintro e W37 ⟨rfl, hb37⟩
        refine hK.out _ _ (kb_call h5 hH36 hb37) (fun hH37 => ?_)
        clear hK K
        try simp only [Act.put, List.setIfInBounds_toArray, List.set_cons_zero, List.set_cons_succ]
        have hW37 := Nat.le_trans (Nat.le_of_eq h5.symm) hH37.size
        have hT37 := there_below hT36 hb37 hgl36
        have hgl37 := Nat.lt_of_lt_of_le hgl36 hb37.size
        clear hT36 hgl36
        clear hb37 hH36 hW36
        refine wpAnyH_ready (rs := [4]) (by kernel_rfl) (by simp) ?_
        refine AllReadyH.cons rfl (fun K hK => ?_) AllReadyH.nil
        · rw [if_pos (by rfl)]
          go_simp
          refine hK.out _ _ (kb_alloc h5 hH37 _) (fun hH38 => ?_)
          clear hK K
          try simp only [Act.put, List.setIfInBounds_toArray, List.set_cons_zero, List.set_cons_succ]
          have hS38 := strs_two W37 a b
          have hq38 : W37.heap.size < (W37.alloc (.cells #[.string (bs a), .string (bs b)] 9)).heap.size := by simp
          have hT38 := there_alloc hT37 hgl37 (.cells #[.string (bs a), .string (bs b)] 9)
          have hgl38 := Nat.lt_trans hgl37 hq38
          clear hH37 hW37 hT37 hgl37
          generalize W37.alloc (.cells #[.string (bs a), .string (bs b)] 9) = W38 at *
          have hW38 := Nat.le_trans (Nat.le_of_eq h5.symm) hH38.size
          clear hq38
          refine wpAnyH_ready (rs := [5]) (by kernel_rfl) (by simp) ?_
          refine AllReadyH.cons rfl (fun K hK => ?_) AllReadyH.nil
          · rw [if_pos (by rfl)]
            go_simp
            refine (tagged_any 1 [a, b] (by simp) hlen _ _ hS38 (Hk.out.below (h4.trans (hH38.mono (by omega))) (Nat.le_of_eq hAe))).mono ?_
            rintro e W39 ⟨rfl, hb39⟩
            rw [Hde.out, HD.out]
            refine hK.out _ _ (kb_call h5 hH38 hb39) (fun hH39 => ?_)
            clear hK K
            try simp only [Act.put, List.setIfInBounds_toArray, List.set_cons_zero, List.set_cons_succ]
            have hW39 := Nat.le_trans (Nat.le_of_eq h5.symm) hH39.size
            have hT39 := there_below hT38 hb39 hgl38
            have hgl39 := Nat.lt_of_lt_of_le hgl38 hb39.size
            clear hT38 hgl38
            clear hb39 hH38 hW38 hS38
            refine wpAnyH_take (i := 6) (v := ?v40) rfl (by kernel_rfl) (by kernel_rfl) (by kernel_rfl) (fun _ _ _ h => h) (Or.inl ⟨by rfl, ?y40⟩) hH39 ?r40
            case y40 => intro w h; go_simp; with_reducible rfl
            try simp only [Act.put, List.setIfInBounds_toArray, List.set_cons_zero, List.set_cons_succ]
            refine wpAnyH_take (i := 7) (v := ?v41) rfl (by kernel_rfl) (by kernel_rfl) (by kernel_rfl) (fun _ _ _ h => h) (Or.inl ⟨by rfl, ?y41⟩) hH39 ?r41
            case y41 => intro w h; go_simp; with_reducible rfl
            try simp only [Act.put, List.setIfInBounds_toArray, List.set_cons_zero, List.set_cons_succ]
            refine wpAnyH_take (i := 8) (v := ?v42) rfl (by kernel_rfl) (by kernel_rfl) (by kernel_rfl) (fun _ _ _ h => h) (Or.inl ⟨by rfl, ?y42⟩) hH39 ?r42
            case y42 => intro w h; go_simp; with_reducible rfl
            try simp only [Act.put, List.setIfInBounds_toArray, List.set_cons_zero, List.set_cons_succ]
            refine wpAnyH_ready (rs := [10]) (by kernel_rfl) (by simp) ?_
            refine AllReadyH.cons rfl (fun K hK => ?_) AllReadyH.nil
            · rw [if_pos (by rfl)]
              refine wp_store_mid 24 (.tmp 5) (.tmp 14) rfl g 0 ld.toArray rfl rfl (by rw [List.size_toArray, hdl]; exact hT39) (by rw [List.size_toArray, hdl]; kernel_rfl) (all_oneCell_toArray hdo) ?_
              refine hK.out _ _ (below_setCells hH39 hg 0 _) (fun hH43 => ?_)
              clear hK K
              try simp only [Act.put, List.setIfInBounds_toArray, List.set_cons_zero, List.set_cons_succ]
              have hL43 := World.rangeAt_setCells_same W39 g 0 ld (by rw [hdl]; exact hT39)
              clear hT39 hgl39 hH39 hW39
              change wpAnyH _ _ _ _ _ _ _ _ (W39.setCells g 0 ld)
              change Below (A + 1 + 1 + 1) w0 (W39.setCells g 0 ld) at hH43
              generalize W39.setCells g 0 ld = W43 at *
              refine wpAnyH_take (i := 11) (v := ?v44) rfl (by kernel_rfl) (by kernel_rfl) (by kernel_rfl) (fun _ _ _ h => h) (Or.inl ⟨by rfl, ?y44⟩) hH43 ?r44
              case y44 => intro w h; go_simp; with_reducible rfl
              try simp only [Act.put, List.setIfInBounds_toArray, List.set_cons_zero, List.set_cons_succ]
              refine wpAnyH_done (by kernel_rfl) ?_ _
              have hZ := h3.below hH43 (by omega)
              simp only [List.getElem_toArray, List.getElem_cons_succ, List.getElem_cons_zero, Exit.then, Act.put, List.setIfInBounds_toArray, List.set_cons_zero, List.set_cons_succ]
              go_at_K
              go_wp2_with (first | ((with_reducible refine at_ld 24 (.tmp 5) ?_); refine wpList_load_mid rfl 24 (.tmp 5) rfl g 0 rfl ld _ hL43 hu rfl (by rw [hdl]; kernel_rfl) ?_) | ((with_reducible refine at_st 24 (.tmp 4) (.tmp 16) ?_); refine wpList_store_row rfl 24 (.tmp 4) (.tmp 16) rfl (A + 1 + 1) ld.toArray rfl rfl 24 (List.replicate 32 (V8 0)).toArray hZ (by rw [List.size_toArray, hdl]; kernel_rfl) (by rw [List.size_toArray, List.size_toArray, hdl]; rfl) (all_oneCell_toArray hdo) ?_))
              exact bodyPost_ret (v := .agg ld.toArray) (results_cell_row rfl _ _ (A + 1 + 1) 24 _ _ _ rfl (setRow_heap _ _ _ _ _ _ hZ) hu rfl (by rw [List.size_toArray, hdl]; kernel_rfl)) rfl ⟨by rw [HD.out], by (try rw [hAe]); exact below_setRow (h4.trans (hH43.mono (by omega))) (by omega) _⟩
end Go.Proofs.YteehpfccegnjjaaDoor
