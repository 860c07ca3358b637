/-
  The contract of the law's known.
-/
import Derived.Test.YteehpfccegnjjaaDoorEql
namespace Go.Proofs.YteehpfccegnjjaaDoor
open Go Go.RowKit
set_option maxRecDepth 100000 in
theorem leaf_ab : Sha.leaf [97] ≠ Sha.leaf [98] := by decide +kernel
abbrev Z32 (T : TypeId) : Obj := .cells (List.replicate 32 (V8 0)).toArray T
/-- Two variables made and filled. -/
theorem two_vars (w : World) (T : TypeId) (la lb : List Value) :
    Arr ((w.alloc (Z32 T)).alloc (Z32 T)) w.heap.size T (List.replicate 32 (V8 0)) ∧
    Arr (((w.alloc (Z32 T)).alloc (Z32 T)).setRow w.heap.size la.toArray) (w.heap.size + 1) T (List.replicate 32 (V8 0)) ∧
    Arr ((((w.alloc (Z32 T)).alloc (Z32 T)).setRow w.heap.size la.toArray).setRow (w.heap.size + 1) lb.toArray) w.heap.size T la ∧
    Arr ((((w.alloc (Z32 T)).alloc (Z32 T)).setRow w.heap.size la.toArray).setRow (w.heap.size + 1) lb.toArray) (w.heap.size + 1) T lb ∧
    Below w.heap.size w ((((w.alloc (Z32 T)).alloc (Z32 T)).setRow w.heap.size la.toArray).setRow (w.heap.size + 1) lb.toArray) ∧
    ((((w.alloc (Z32 T)).alloc (Z32 T)).setRow w.heap.size la.toArray).setRow (w.heap.size + 1) lb.toArray).heap.size = w.heap.size + 1 + 1 := by
  have h := arr2 w T T (List.replicate 32 (V8 0)) (List.replicate 32 (V8 0))
  have h2 := h.2.1.setRow_other w.heap.size la.toArray (by omega)
  have h3 := (h.1.setRow la.toArray).setRow_other (w.heap.size + 1) lb.toArray (by omega)
  have h4 := h2.setRow lb.toArray
  exact ⟨h.1, h2, h3, h4, below_setRow (below_setRow h.2.2 (Nat.le_refl _) _) (by omega) _, by simp [World.setRow]⟩
theorem one_var (w : World) (T : TypeId) (la : List Value) :
    Arr (w.alloc (Z32 T)) w.heap.size T (List.replicate 32 (V8 0)) ∧ Arr ((w.alloc (Z32 T)).setRow w.heap.size la.toArray) w.heap.size T la ∧
    Below w.heap.size w ((w.alloc (Z32 T)).setRow w.heap.size la.toArray) ∧ ((w.alloc (Z32 T)).setRow w.heap.size la.toArray).heap.size = w.heap.size + 1 := by
  have h := Arr.new w T (List.replicate 32 (V8 0))
  exact ⟨h, h.setRow la.toArray, below_setRow ((Below.refl _ _).alloc (Nat.le_refl _) _) (Nat.le_refl _) _, by simp [World.setRow]⟩
theorem arr_digs (w : World) (g : Nat) (T : TypeId) (ds : List (List UInt8)) (hall : ∀ d ∈ ds, d.length = 32) (h : Arr w g T (flat ds)) : Digs w (.slice (some ⟨g, 0, none⟩) ds.length ds.length) ds := by
  refine ⟨hall, .inr ⟨g, 0, ds.length, rfl, Nat.le_refl _, h.lt, fun j hj i u hu => ?_⟩⟩
  have hi : i < 32 := by
    have h1 := (List.getElem?_eq_some_iff.1 hu).1
    have e : (ds.getD j []).length = 32 := by rw [List.getD_eq_getElem?_getD, List.getElem?_eq_getElem hj]; exact hall _ (List.getElem_mem hj)
    rw [List.length_map, e] at h1
    exact h1
  rw [Nat.zero_add, h.cell (j * 32 + i), flat_get ds hall j i hj hi]
  exact hu
theorem mtree_two (a b : List UInt8) : mtree [a, b] = Sha.node a b := by
  unfold mtree
  rw [if_neg (by simp), mroot, if_pos (by simp)]
  have e : lp ([a, b] : List (List UInt8)).length = 1 := by show lp 2 = 1; decide
  rw [e]
  show Sha.node (mroot [a]) (mroot [b]) = _
  rw [mroot, if_neg (by simp), mroot, if_neg (by simp)]
  rfl
theorem st_size (la : List Value) (h : la.length = 32) : (List.replicate 32 (V8 0)).toArray.size = la.toArray.size := by rw [List.size_toArray, List.size_toArray, h]; rfl
theorem inf_size {T : TypeId} (hI : (Tryd.prog.info? T).map (·.size) = some 32) (la : List Value) (h : la.length = 32) : (Tryd.prog.info? T).map (·.size) = some la.toArray.size := by rw [List.size_toArray, h]; exact hI
theorem infD32 : (Tryd.prog.info? 24).map (·.size) = some 32 := by kernel_rfl
theorem infR32 : (Tryd.prog.info? 23).map (·.size) = some 32 := by kernel_rfl

theorem append_la (w : World) (base g : Nat) (ds : List (List UInt8)) (mv : Value) (hT : TreeAt w base g ds mv) (d : List UInt8) (hd : d.length = 32) (v : Value) (hv : Dv d = v) (hmax : ds.length < 1048576) :
    Calls Tryd.prog 39 #[.pointer (some ⟨g, 0, none⟩), v] w fun e w' => e = .returned (.int .i64 0) ∧ TreeAt w' base g (ds ++ [d]) mv ∧ Below base w w' := by rw [← hv]; exact append_any w base g ds mv hT d hd hmax
set_option maxRecDepth 100000 in
set_option maxHeartbeats 400000 in
theorem known_any (w : World) (hK : KT w) : Calls Tryd.prog 15 #[] w fun e w' => e = .returned (.bool true) ∧ Below w.heap.size w w' := by
  have Hk := Lib.hid hK; clear hK
  have hne := leaf_ab
  have ha := Sha.leaf_length [97]
  have hb := Sha.leaf_length [98]
  have ca := fun w hK => leaf_any [97] (by simp) w hK
  have cb := fun w hK => leaf_any [98] (by simp) w hK
  have ra := fun w => leafR_any [97] (by simp) w
  have rb := fun w => leafR_any [98] (by simp) w
  generalize Sha.leaf [97] = a at *
  generalize Sha.leaf [98] = b at *
  have hc := Sha.node_length a b
  have hm := mtree_two a b
  have cn := fun va vb hA hB w hK => node_la a b ha hb va vb hA hB w hK
  have rn := fun va vb hA hB w => nodeR_la a b ha hb va vb hA hB w
  generalize Sha.node a b = c at *
  obtain ⟨la, hA, hla, hal, hao⟩ := v8_list a ha
  obtain ⟨lb, hB, hlb, hbl, hbo⟩ := v8_list b hb
  obtain ⟨lc, hC, hlc, hcl, hco⟩ := v8_list c hc
  have HA := Lib.hid hA; have HB := Lib.hid hB; have HC := Lib.hid hC; have HLA := Lib.hid hla; have HLB := Lib.hid hlb; have HLC := Lib.hid hlc
  have HNE := Lib.hid hne
  clear hA hB hC hla hlb hlc hne
  go_enter Tryd.func15, Tryd.ntmps15
  go_wp2_with fail
  refine (ca _ Hk.out).mono ?_
  rintro e w1 ⟨rfl, hb1⟩
  go_wp2_with fail
  refine (cb _ (Hk.out.below hb1 (Nat.le_refl _))).mono ?_
  rintro e w2 ⟨rfl, hb2⟩
  have hB2 := hb1.trans (hb2.mono hb1.size)
  clear hb1 hb2
  rw [HA.out, HB.out]
  have Hk2 := Lib.hid (Hk.out.below hB2 (Nat.le_refl _))
  have h2 := Lib.hid (two_vars w2 24 la lb)
  have HI := Lib.hid (inf_size infD32 la hal); have HI2 := Lib.hid (inf_size infD32 lb hbl); have HI3 := Lib.hid (inf_size infD32 lc hcl)
  have HS := Lib.hid (st_size la hal); have HS2 := Lib.hid (st_size lb hbl); have HS3 := Lib.hid (st_size lc hcl)
  have HO := Lib.hid (all_oneCell_toArray hao); have HO2 := Lib.hid (all_oneCell_toArray hbo); have HO3 := Lib.hid (all_oneCell_toArray hco)
  clear hao hbo hco
  have hu := Lib.hid Tryd.underlying24
  go_upto_region 2 with (first | ((with_reducible refine at_st 24 (.tmp 1) (.tmp 6) ?_); refine wpList_store_row rfl 24 (.tmp 1) (.tmp 6) rfl w2.heap.size la.toArray rfl rfl 24 _ h2.out.1 HI.out HS.out HO.out ?_) | ((with_reducible refine at_st 24 (.tmp 2) (.tmp 7) ?_); refine wpList_store_row rfl 24 (.tmp 2) (.tmp 7) rfl (w2.heap.size + 1) lb.toArray rfl rfl 24 _ h2.out.2.1 HI2.out HS2.out HO2.out ?_))
  have h3 := h2.out.2.2
  clear h2
  change Code.wp _ _ _ _ ((((w2.alloc (Z32 24)).alloc (Z32 24)).setRow w2.heap.size la.toArray).setRow (w2.heap.size + 1) lb.toArray)
  generalize (((w2.alloc (Z32 24)).alloc (Z32 24)).setRow w2.heap.size la.toArray).setRow (w2.heap.size + 1) lb.toArray = w3 at *
  have h4 := h3.1; have h5 := h3.2.1; have hB3 := hB2.trans (h3.2.2.1.mono hB2.size); have hs3 := h3.2.2.2
  clear h3 hB2
  have hds : Digs (w3.alloc (.cells (flat [a, b]).toArray 24)) (.slice (some ⟨w3.heap.size, 0, none⟩) 2 2) [a, b] := arr_digs _ _ _ _ (by simp [ha, hb]) (Arr.new w3 _ _)
  have hfl : (([.agg la.toArray, .agg lb.toArray] : List Value).flatMap fun v => v.cells.toList).toArray = (flat [a, b]).toArray := by simp [flat, Value.cells, HLA.out, HLB.out]
  have hsz : ∀ v ∈ ([.agg la.toArray, .agg lb.toArray] : List Value), v.cells.size = 32 := by intro v hv; simp at hv; rcases hv with rfl | rfl <;> simpa [Value.cells] using by assumption
  have hbl3 := below_alloc w3 (.cells (flat [a, b]).toArray 24)
  rw [hs3] at hds
  generalize flat [a, b] = lab at hds hfl hbl3
  have HDS := Lib.hid hds; have HFL := Lib.hid hfl; have HSZ := Lib.hid hsz; have HBL3 := Lib.hid hbl3
  clear hds hfl hsz hbl3
  go_wp2_with (first | ((with_reducible refine at_ld 24 (.tmp 1) ?_); refine wpList_load_row rfl 24 (.tmp 1) rfl w2.heap.size rfl 24 la.toArray (0, 0) _ h4 hu.out rfl HI.out ?_) | ((with_reducible refine at_ld 24 (.tmp 2) ?_); refine wpList_load_row rfl 24 (.tmp 2) rfl (w2.heap.size + 1) rfl 24 lb.toArray (0, 0) _ h5 hu.out rfl HI2.out ?_) | ((with_reducible refine at_bs _ _ #[(0, .tmp 9), (1, .tmp 10)] ?_); refine wpList_bs rfl 29 24 2 _ rfl [.agg la.toArray, .agg lb.toArray] rfl HSZ.out rfl (by decide) (by decide) Tryd.underlying29 i32D ?_; rw [HFL.out]))
  refine (treeroot_any [a, b] _ _ (by simp) HDS.out (Hk.out.below (hB3.trans (HBL3.out.mono hB3.size)) (Nat.le_refl _))).mono ?_
  rintro e w4 ⟨rfl, hb4⟩
  rw [hm, HC.out]
  have hB34 := HBL3.out.trans (hb4.mono HBL3.out.size)
  have h44 := h4.below hB34 h4.lt
  have h54 := h5.below hB34 h5.lt
  have hB4 := hB3.trans (hB34.mono hB3.size)
  have hs4 : w2.heap.size + 1 < w4.heap.size := by have := hB34.size; omega
  clear hb4 hB34 h4 h5 hB3 HDS HBL3 hs3
  have h6 := Lib.hid (one_var w4 24 lc)
  go_upto_region 3 with (first | ((with_reducible refine at_st 24 (.tmp 3) (.tmp 13) ?_); refine wpList_store_row rfl 24 (.tmp 3) (.tmp 13) rfl w4.heap.size lc.toArray rfl rfl 24 _ h6.out.1 HI3.out HS3.out HO3.out ?_))
  have h7 := h6.out.2
  clear h6
  change Code.wp _ _ _ _ ((w4.alloc (Z32 24)).setRow w4.heap.size lc.toArray)
  generalize (w4.alloc (Z32 24)).setRow w4.heap.size lc.toArray = w5 at *
  have h45 := h44.below h7.2.1 h44.lt
  have h55 := h54.below h7.2.1 h54.lt
  have h65 := h7.1
  have hB5 := hB4.trans (h7.2.1.mono hB4.size)
  have hs5 := h7.2.2
  generalize w4.heap.size = g3 at *
  clear h44 h54 h7 hB4
  go_upto_region 4 with (fail)
  refine (new_any _).mono ?_
  rintro e w6 ⟨⟨mv, rfl, hT, -⟩, hb6⟩
  have h46 := h45.below hb6 h45.lt
  have h56 := h55.below hb6 h55.lt
  have h66 := h65.below hb6 h65.lt
  have hB6 := hB5.trans (hb6.mono hB5.size)
  have hg5 : w5.heap.size < w6.heap.size := hT.lt
  have hg4 := hB5.size
  clear h45 h55 h65 hB5 hb6
  generalize w5.heap.size = g4 at *
  clear hs5
  go_upto_region 4 with (fail)
  have R1 := h46.range; have R2 := h56.range; have R3 := h66.range
  have HT := Lib.hid hT; clear hT
  generalize w2.heap.size = g1 at *
  have hI := Lib.hid (show (Tryd.prog.info? 24).map (·.size) = some la.length by rw [hal]; exact infD32)
  have hI2 := Lib.hid (show (Tryd.prog.info? 24).map (·.size) = some lb.length by rw [hbl]; exact infD32)
  have hI3 := Lib.hid (show (Tryd.prog.info? 24).map (·.size) = some lc.length by rw [hcl]; exact infD32)
  have hlt1 : g1 < w6.heap.size := h46.lt
  have hlt2 : g1 + 1 < w6.heap.size := h56.lt
  have hlt3 : g3 < w6.heap.size := h66.lt
  refine wp_region_class 28 [] [0, 1, 2, 3, 4, 5, 6, 7, 8, 9, 10, 11, 12, 13, 14, 15, 16, 17, 18, 19, 20, 21, 22, 23, 24, 25, 26, 27] (Below w6.heap.size w6) (Stable.below w6) (Below.refl _ _).drew (by kernel_rfl) (by kernel_rfl) ?_
  simp only [opsOf, List.getElem?_cons_succ, List.getElem?_cons_zero, List.drop_succ_cons, List.drop_zero]
  refine wpL_val (.agg la.toArray) rfl (by rfl) (fun wq hq => quiet_ld 24 _ rfl _ _ rfl la _ (range_below R1 hq hlt1) hu.out rfl hI.out) ?_
  try simp only [Act.put, List.setIfInBounds_toArray, List.set_cons_zero, List.set_cons_succ]
  refine wpL_val (.agg lb.toArray) rfl (by rfl) (fun wq hq => quiet_ld 24 _ rfl _ _ rfl lb _ (range_below R2 hq hlt2) hu.out rfl hI2.out) ?_
  try simp only [Act.put, List.setIfInBounds_toArray, List.set_cons_zero, List.set_cons_succ]
  refine wpL_val ?v4 rfl (by rfl) (fun wq hq => ?y4) ?z4
  case y4 => go_simp; rw [eqlD a b ha hb _ _ HA.out HB.out, decide_eq_false HNE.out]; go_simp; with_reducible rfl
  try simp only [Act.put, List.setIfInBounds_toArray, List.set_cons_zero, List.set_cons_succ]
  refine wpL_val ?v5 rfl (by rfl) (fun wq hq => ?y5) ?z5
  case y5 => go_simp; with_reducible rfl
  try simp only [Act.put, List.setIfInBounds_toArray, List.set_cons_zero, List.set_cons_succ]
  refine wpL_val ?v6 rfl (by rfl) (fun wq hq => ?y6) ?z6
  case y6 => go_simp; with_reducible rfl
  try simp only [Act.put, List.setIfInBounds_toArray, List.set_cons_zero, List.set_cons_succ]
  refine wpL_val ?v7 rfl (by rfl) (fun wq hq => ?y7) ?z7
  case y7 => go_simp; with_reducible rfl
  try simp only [Act.put, List.setIfInBounds_toArray, List.set_cons_zero, List.set_cons_succ]
  refine wpL_val ?v8 rfl (by rfl) (fun wq hq => ?y8) ?z8
  case y8 => go_simp; with_reducible rfl
  try simp only [Act.put, List.setIfInBounds_toArray, List.set_cons_zero, List.set_cons_succ]
  refine wpL_val ?v9 rfl (by rfl) (fun wq hq => ?y9) ?z9
  case y9 => go_simp; with_reducible rfl
  try simp only [Act.put, List.setIfInBounds_toArray, List.set_cons_zero, List.set_cons_succ]
  refine wpL_val (.agg lc.toArray) rfl (by rfl) (fun wq hq => quiet_ld 24 _ rfl _ _ rfl lc _ (range_below R3 hq hlt3) hu.out rfl hI3.out) ?_
  try simp only [Act.put, List.setIfInBounds_toArray, List.set_cons_zero, List.set_cons_succ]
  refine wpL_val (.agg la.toArray) rfl (by rfl) (fun wq hq => quiet_ld 24 _ rfl _ _ rfl la _ (range_below R1 hq hlt1) hu.out rfl hI.out) ?_
  try simp only [Act.put, List.setIfInBounds_toArray, List.set_cons_zero, List.set_cons_succ]
  refine wpL_val (.agg lb.toArray) rfl (by rfl) (fun wq hq => quiet_ld 24 _ rfl _ _ rfl lb _ (range_below R2 hq hlt2) hu.out rfl hI2.out) ?_
  try simp only [Act.put, List.setIfInBounds_toArray, List.set_cons_zero, List.set_cons_succ]
  refine wpL_val ?v13 rfl (by rfl) (fun wq hq => ?y13) ?z13
  case y13 => go_simp; exact cn _ _ HA.out HB.out _ (Hk.out.below (hB6.trans (hq.mono hB6.size)) (Nat.le_refl _))
  try simp only [Act.put, List.setIfInBounds_toArray, List.set_cons_zero, List.set_cons_succ]
  refine wpL_val ?v14 rfl (by rfl) (fun wq hq => ?y14) ?z14
  case y14 => rw [HC.out]; go_simp; rw [eqlD c c hc hc _ _ HC.out HC.out, decide_eq_true rfl]; go_simp; with_reducible rfl
  try simp only [Act.put, List.setIfInBounds_toArray, List.set_cons_zero, List.set_cons_succ]
  refine wpL_val ?v15 rfl (by rfl) (fun wq hq => ?y15) ?z15
  case y15 => go_simp; with_reducible rfl
  try simp only [Act.put, List.setIfInBounds_toArray, List.set_cons_zero, List.set_cons_succ]
  refine wpL_val ?v16 rfl (by rfl) (fun wq hq => ?y16) ?z16
  case y16 => go_simp; with_reducible rfl
  try simp only [Act.put, List.setIfInBounds_toArray, List.set_cons_zero, List.set_cons_succ]
  refine wpL_val (.agg lc.toArray) rfl (by rfl) (fun wq hq => quiet_ld 24 _ rfl _ _ rfl lc _ (range_below R3 hq hlt3) hu.out rfl hI3.out) ?_
  try simp only [Act.put, List.setIfInBounds_toArray, List.set_cons_zero, List.set_cons_succ]
  refine wpL_val ?v18 rfl (by rfl) (fun wq hq => ?y18) ?z18
  case y18 => go_simp; exact ra _
  try simp only [Act.put, List.setIfInBounds_toArray, List.set_cons_zero, List.set_cons_succ]
  refine wpL_val ?v19 rfl (by rfl) (fun wq hq => ?y19) ?z19
  case y19 => go_simp; exact rb _
  try simp only [Act.put, List.setIfInBounds_toArray, List.set_cons_zero, List.set_cons_succ]
  refine wpL_val ?v20 rfl (by rfl) (fun wq hq => ?y20) ?z20
  case y20 => go_simp; exact rn _ _ rfl rfl _
  try simp only [Act.put, List.setIfInBounds_toArray, List.set_cons_zero, List.set_cons_succ]
  refine wpL_val ?v21 rfl (by rfl) (fun wq hq => ?y21) ?z21
  case y21 => rw [HC.out]; go_simp; rw [eqlR c c hc hc _ _ HC.out HC.out, decide_eq_true rfl]; go_simp; with_reducible rfl
  try simp only [Act.put, List.setIfInBounds_toArray, List.set_cons_zero, List.set_cons_succ]
  refine wpL_val ?v22 rfl (by rfl) (fun wq hq => ?y22) ?z22
  case y22 => go_simp; with_reducible rfl
  try simp only [Act.put, List.setIfInBounds_toArray, List.set_cons_zero, List.set_cons_succ]
  refine wpL_val ?v23 rfl (by rfl) (fun wq hq => ?y23) ?z23
  case y23 => go_simp; with_reducible rfl
  try simp only [Act.put, List.setIfInBounds_toArray, List.set_cons_zero, List.set_cons_succ]
  refine wpL_val ?v24 rfl (by rfl) (fun wq hq => ?y24) ?z24
  case y24 => go_simp; with_reducible rfl
  try simp only [Act.put, List.setIfInBounds_toArray, List.set_cons_zero, List.set_cons_succ]
  refine wpL_val ?v25 rfl (by rfl) (fun wq hq => ?y25) ?z25
  case y25 => go_simp; with_reducible rfl
  try simp only [Act.put, List.setIfInBounds_toArray, List.set_cons_zero, List.set_cons_succ]
  refine wpL_val ?v26 rfl (by rfl) (fun wq hq => ?y26) ?z26
  case y26 => go_simp; with_reducible rfl
  try simp only [Act.put, List.setIfInBounds_toArray, List.set_cons_zero, List.set_cons_succ]
  refine wpL_val ?v27 rfl (by rfl) (fun wq hq => ?y27) ?z27
  case y27 => go_simp; with_reducible rfl
  try simp only [Act.put, List.setIfInBounds_toArray, List.set_cons_zero, List.set_cons_succ]
  refine wpL_val ?v28 rfl (by rfl) (fun wq hq => ?y28) ?z28
  case y28 => go_simp; with_reducible rfl
  try simp only [Act.put, List.setIfInBounds_toArray, List.set_cons_zero, List.set_cons_succ]
  refine wpL_val (.agg la.toArray) rfl (by rfl) (fun wq hq => quiet_ld 24 _ rfl _ _ rfl la _ (range_below R1 hq hlt1) hu.out rfl hI.out) ?_
  try simp only [Act.put, List.setIfInBounds_toArray, List.set_cons_zero, List.set_cons_succ]
  refine wpL_nil ?_
  intro wt hwt
  have hz0 : ([] : List (List UInt8)).length < 1048576 := by decide
  have hTt := HT.out.below hwt (Nat.le_refl _)
  have hBt := hB6.trans (hwt.mono hB6.size)
  go_wp2_with fail
  refine (append_la wt g4 g4 [] mv hTt a ha _ HA.out hz0).mono ?_
  rintro e w8 ⟨rfl, hT8, hB8⟩
  go_wp2_with fail
  refine (tlen_any _ g4 g4 _ mv hT8).mono ?_
  rintro e w9 ⟨rfl, rfl⟩
  have HB8 := Lib.hid hB8; have HBt := Lib.hid hBt
  clear hB8 hBt hT8 hTt
  go_wp2_with fail
  go_ret
  exact ⟨rfl, HBt.out.trans (HB8.out.mono hg4)⟩
end Go.Proofs.YteehpfccegnjjaaDoor
