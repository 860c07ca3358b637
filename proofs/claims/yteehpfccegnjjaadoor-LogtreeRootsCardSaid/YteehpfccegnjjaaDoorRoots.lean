/-
  The walk of the law LogtreeRoots.
-/
import Derived.Test.YteehpfccegnjjaaDoorKnown
namespace Go.Proofs.YteehpfccegnjjaaDoor
open Go Go.RowKit
theorem cut_bytes (s : ByteArray) (k : Nat) : ∃ l : List UInt8, s.extract 0 k = bs l ∧ l.length ≤ k := by
  have hs : (s.extract 0 k).size ≤ k := by rw [ByteArray.size_extract]; omega
  revert hs
  generalize s.extract 0 k = x
  intro hs
  cases x with
  | mk d =>
    cases d with
    | mk l => exact ⟨l, rfl, hs⟩


set_option maxRecDepth 100000 in
set_option linter.unusedSimpArgs false in
set_option maxHeartbeats 4000000 in
theorem roots_law (s t : ByteArray) (ds : List (List UInt8)) (v : Value) (w : World) (hV : Digs w v ds) (hK : KT w) :
    Calls Tryd.prog 3 #[.string s, .string t, v] w fun e w' => e = .returned (.bool true) ∧ Below w.heap.size w w' := by
  have Hk := Lib.hid hK; clear hK
  have hs1 : min (s.size : Int) (300 : Int) = ((min s.size 300 : Nat) : Int) := by omega
  have hs2 : min (t.size : Int) (300 : Int) = ((min t.size 300 : Nat) : Int) := by omega
  have hs3 : min (ds.length : Int) (40 : Int) = ((min ds.length 40 : Nat) : Int) := by omega
  have k1 : min s.size 300 ≤ s.size := by omega
  have k2 : min t.size 300 ≤ t.size := by omega
  have k3 : min ds.length 40 ≤ ds.length := by omega
  have k4 : min s.size 300 ≤ 300 := by omega
  have k5 : min t.size 300 ≤ 300 := by omega
  have k6 : min ds.length 40 ≤ 40 := by omega
  generalize min s.size 300 = n1 at *
  generalize min t.size 300 = n2 at *
  obtain ⟨l1, hl1, hn1⟩ := cut_bytes s n1
  obtain ⟨l2, hl2, hn2⟩ := cut_bytes t n2
  replace hn1 := Nat.le_trans hn1 k4
  replace hn2 := Nat.le_trans hn2 k5
  rcases hV.lies with ⟨rfl, ad, cap, rfl⟩ | ⟨g, o, cap, rfl, hcap, hg, hr⟩
  · rcases ad with _ | ad
    · have hV2 := hV
      clear hV hs3 k3 k6
      have hd40 : ([] : List (List UInt8)).length ≤ 1048576 := by decide
      generalize ([] : List (List UInt8)) = dt at hV2 hd40
      have h0cap : (0 : Int) ≤ (cap : Int) := by omega
      have h040 : min (0 : Int) (40 : Int) = 0 := rfl
      go_enter Tryd.func3, Tryd.ntmps3
      go_upto_region 1 with (fail)
      refine wp_region_class 17 [] [0, 1, 2, 3, 4, 5, 6, 7, 8, 9, 10, 11, 12, 13, 14, 15, 16] (Below w.heap.size w) (Stable.below w) (Below.refl _ _).drew (by kernel_rfl) (by kernel_rfl) ?_
      simp only [opsOf, List.getElem?_cons_succ, List.getElem?_cons_zero, List.drop_succ_cons, List.drop_zero]
      refine wpL_val ?v2 rfl (by rfl) (fun wq hq => ?y2) ?z2
      case y2 => go_simp; with_reducible rfl
      try simp only [Act.put, List.setIfInBounds_toArray, List.set_cons_zero, List.set_cons_succ]
      refine wpL_val ?v3 rfl (by rfl) (fun wq hq => ?y3) ?z3
      case y3 => go_simp; with_reducible rfl
      try simp only [Act.put, List.setIfInBounds_toArray, List.set_cons_zero, List.set_cons_succ]
      refine wpL_val ?v4 rfl (by rfl) (fun wq hq => ?y4) ?z4
      case y4 => go_simp; with_reducible rfl
      try simp only [Act.put, List.setIfInBounds_toArray, List.set_cons_zero, List.set_cons_succ]
      refine wpL_val ?v5 rfl (by rfl) (fun wq hq => ?y5) ?z5
      case y5 => go_simp; with_reducible rfl
      try simp only [Act.put, List.setIfInBounds_toArray, List.set_cons_zero, List.set_cons_succ]
      refine wpL_val ?v6 rfl (by rfl) (fun wq hq => ?y6) ?z6
      case y6 => go_simp; with_reducible rfl
      try simp only [Act.put, List.setIfInBounds_toArray, List.set_cons_zero, List.set_cons_succ]
      refine wpL_val ?v7 rfl (by rfl) (fun wq hq => ?y7) ?z7
      case y7 => go_simp; with_reducible rfl
      try simp only [Act.put, List.setIfInBounds_toArray, List.set_cons_zero, List.set_cons_succ]
      refine wpL_val ?v8 rfl (by rfl) (fun wq hq => ?y8) ?z8
      case y8 => go_simp; with_reducible rfl
      try simp only [Act.put, List.setIfInBounds_toArray, List.set_cons_zero, List.set_cons_succ]
      refine wpL_val ?v9 rfl (by rfl) (fun wq hq => ?y9) ?z9
      case y9 => go_simp; with_reducible rfl
      try simp only [Act.put, List.setIfInBounds_toArray, List.set_cons_zero, List.set_cons_succ]
      refine wpL_val ?v10 rfl (by rfl) (fun wq hq => ?y10) ?z10
      case y10 => go_simp; with_reducible rfl
      try simp only [Act.put, List.setIfInBounds_toArray, List.set_cons_zero, List.set_cons_succ]
      refine wpL_val ?v11 rfl (by rfl) (fun wq hq => ?y11) ?z11
      case y11 => go_simp; with_reducible rfl
      try simp only [Act.put, List.setIfInBounds_toArray, List.set_cons_zero, List.set_cons_succ]
      refine wpL_val ?v12 rfl (by rfl) (fun wq hq => ?y12) ?z12
      case y12 => go_simp; with_reducible rfl
      try simp only [Act.put, List.setIfInBounds_toArray, List.set_cons_zero, List.set_cons_succ]
      refine wpL_val ?v13 rfl (by rfl) (fun wq hq => ?y13) ?z13
      case y13 => go_simp; with_reducible rfl
      try simp only [Act.put, List.setIfInBounds_toArray, List.set_cons_zero, List.set_cons_succ]
      refine wpL_val ?v14 rfl (by rfl) (fun wq hq => ?y14) ?z14
      case y14 => go_simp; with_reducible rfl
      try simp only [Act.put, List.setIfInBounds_toArray, List.set_cons_zero, List.set_cons_succ]
      refine wpL_val ?v15 rfl (by rfl) (fun wq hq => ?y15) ?z15
      case y15 => go_simp; with_reducible rfl
      try simp only [Act.put, List.setIfInBounds_toArray, List.set_cons_zero, List.set_cons_succ]
      refine wpL_val ?v16 rfl (by rfl) (fun wq hq => ?y16) ?z16
      case y16 => go_simp; with_reducible rfl
      try simp only [Act.put, List.setIfInBounds_toArray, List.set_cons_zero, List.set_cons_succ]
      refine wpL_val ?v17 rfl (by rfl) (fun wq hq => ?y17) ?z17
      case y17 => go_simp; with_reducible rfl
      try simp only [Act.put, List.setIfInBounds_toArray, List.set_cons_zero, List.set_cons_succ]
      refine wpL_val ?v18 rfl (by rfl) (fun wq hq => ?y18) ?z18
      case y18 => go_simp; with_reducible rfl
      try simp only [Act.put, List.setIfInBounds_toArray, List.set_cons_zero, List.set_cons_succ]
      refine wpL_nil ?_
      intro wt hwt
      have hB0 := hwt
      clear hs1 hs2 k1 k2 k4 k5 h040 h0cap hwt
      replace hV2 := hV2.below hB0 (Nat.le_refl _)
      replace Hk := Lib.hid (Hk.out.below hB0 (Nat.le_refl _))
      have HV2 := Lib.hid hV2
      have HL1 := Lib.hid hl1; have HL2 := Lib.hid hl2
      clear hl1 hl2
      have ha := Sha.leaf_length l1
      have hb := Sha.leaf_length l2
      have ca := fun w hK => leaf_any l1 hn1 w hK
      have cb := fun w hK => leaf_any l2 hn2 w hK
      have ra := fun w => leafR_any l1 hn1 w
      have rb := fun w => leafR_any l2 hn2 w
      generalize Sha.leaf l1 = a at *
      generalize Sha.leaf l2 = b at *
      have hc := Sha.node_length a b
      have cn := fun va vb hA hB w hK => node_la a b ha hb va vb hA hB w hK
      have rn := fun va vb hA hB w => nodeR_la a b ha hb va vb hA hB w
      generalize Sha.node a b = c at *
      have hz := Sha.empty_length
      have ze := empty_any
      have zr := emptyR_any
      generalize Sha.empty = z at *
      have hr := mtree_length dt HV2.out.all
      have rr := fun w hV => rootE_any dt (Value.slice none 0 cap) w hd40 hV
      have hro := fun w hV => own_any dt (Value.slice none 0 cap) w hd40 hV
      have hrt := fun v w hV hK => treeroot_any dt v w hd40 hV hK
      generalize mtree dt = r at *
      obtain ⟨la, hA, -, hal, hao⟩ := v8_list a ha
      obtain ⟨lb, hB, -, hbl, hbo⟩ := v8_list b hb
      obtain ⟨lc, hC, -, hcl, hco⟩ := v8_list c hc
      obtain ⟨lz, hZ, -, hzl, hzo⟩ := v8_list z hz
      obtain ⟨lr, hR, -, hrl, hrro⟩ := v8_list r hr
      have HA := Lib.hid hA; have HB := Lib.hid hB; have HC := Lib.hid hC; have HE := Lib.hid hZ; have HR := Lib.hid hR
      clear hA hB hC hZ hR
      go_wp2_with fail
      refine (ca _ Hk.out).mono ?_
      rintro e w1 ⟨rfl, hb1⟩
      go_wp2_with fail
      refine (cb _ (Hk.out.below hb1 (Nat.le_refl _))).mono ?_
      rintro e w2 ⟨rfl, hb2⟩
      have hB2 := hb1.trans (hb2.mono hb1.size)
      clear hb1 hb2
      rw [HA.out, HB.out]
      have h2 := Lib.hid (two_vars w2 24 la lb)
      have HI := Lib.hid (inf_size infD32 la hal); have HI2 := Lib.hid (inf_size infD32 lb hbl); have HI3 := Lib.hid (inf_size infD32 lr hrl)
      have HS := Lib.hid (st_size la hal); have HS2 := Lib.hid (st_size lb hbl); have HS3 := Lib.hid (st_size lr hrl)
      have HO := Lib.hid (all_oneCell_toArray hao); have HO2 := Lib.hid (all_oneCell_toArray hbo); have HO3 := Lib.hid (all_oneCell_toArray hrro)
      clear hao hbo hco hzo hrro
      have hu := Lib.hid Tryd.underlying24
      go_upto_region 3 with (first | ((with_reducible refine at_st 24 (.tmp 7) (.tmp 27) ?_); refine wpList_store_row rfl 24 (.tmp 7) (.tmp 27) rfl w2.heap.size la.toArray rfl rfl 24 _ h2.out.1 HI.out HS.out HO.out ?_) | ((with_reducible refine at_st 24 (.tmp 8) (.tmp 29) ?_); refine wpList_store_row rfl 24 (.tmp 8) (.tmp 29) rfl (w2.heap.size + 1) lb.toArray rfl rfl 24 _ h2.out.2.1 HI2.out HS2.out HO2.out ?_))
      have h3 := h2.out.2.2
      clear h2
      change Code.wp _ _ _ _ ((((w2.alloc (Z32 24)).alloc (Z32 24)).setRow w2.heap.size la.toArray).setRow (w2.heap.size + 1) lb.toArray)
      generalize (((w2.alloc (Z32 24)).alloc (Z32 24)).setRow w2.heap.size la.toArray).setRow (w2.heap.size + 1) lb.toArray = w3 at *
      have h4 := h3.1; have h5 := h3.2.1; have hB3 := hB2.trans (h3.2.2.1.mono hB2.size)
      clear h3 hB2
      generalize w2.heap.size = g1 at *
      go_wp2_with fail
      refine (hro _ (HV2.out.below hB3 (Nat.le_refl _))).mono ?_
      rintro e w4 ⟨⟨v4, rfl, hV4⟩, hb4⟩
      have hB4 := hB3.trans (hb4.mono hB3.size)
      have h44 := h4.below hb4 h4.lt
      have h54 := h5.below hb4 h5.lt
      clear h4 h5 hB3 hb4
      go_wp2_with fail
      refine (hrt _ _ hV4 (Hk.out.below hB4 (Nat.le_refl _))).mono ?_
      rintro e w5 ⟨rfl, hb5⟩
      rw [HR.out]
      have hB5 := hB4.trans (hb5.mono hB4.size)
      have h45 := h44.below hb5 h44.lt
      have h55 := h54.below hb5 h54.lt
      clear h44 h54 hB4 hb5 hV4
      have h6 := Lib.hid (one_var w5 24 lr)
      go_upto_region 4 with (first | ((with_reducible refine at_st 24 (.tmp 9) (.tmp 34) ?_); refine wpList_store_row rfl 24 (.tmp 9) (.tmp 34) rfl w5.heap.size lr.toArray rfl rfl 24 _ h6.out.1 HI3.out HS3.out HO3.out ?_))
      have h7 := h6.out.2
      clear h6
      change Code.wp _ _ _ _ ((w5.alloc (Z32 24)).setRow w5.heap.size lr.toArray)
      generalize (w5.alloc (Z32 24)).setRow w5.heap.size lr.toArray = w6 at *
      have h46 := h45.below h7.2.1 h45.lt
      have h56 := h55.below h7.2.1 h55.lt
      have h66 := h7.1
      have hB6 := hB5.trans (h7.2.1.mono hB5.size)
      generalize w5.heap.size = g3 at *
      clear h45 h55 h7 hB5
      have R1 := h46.range; have R2 := h56.range; have R3 := h66.range
      have hI := Lib.hid (show (Tryd.prog.info? 24).map (·.size) = some la.length by rw [hal]; exact infD32)
      have hI2 := Lib.hid (show (Tryd.prog.info? 24).map (·.size) = some lb.length by rw [hbl]; exact infD32)
      have hI3 := Lib.hid (show (Tryd.prog.info? 24).map (·.size) = some lr.length by rw [hrl]; exact infD32)
      have hlt1 : g1 < w6.heap.size := h46.lt
      have hlt2 : g1 + 1 < w6.heap.size := h56.lt
      have hlt3 : g3 < w6.heap.size := h66.lt
      have HDT := HV2
      clear hV2
      refine wp_region_class 33 [] [0, 1, 2, 3, 4, 5, 6, 7, 8, 9, 10, 11, 12, 13, 14, 15, 16, 17, 18, 19, 20, 21, 22, 23, 24, 25, 26, 27, 28, 29, 30, 31, 32] (Below w6.heap.size w6) (Stable.below w6) (Below.refl _ _).drew (by kernel_rfl) (by kernel_rfl) ?_
      simp only [opsOf, List.getElem?_cons_succ, List.getElem?_cons_zero, List.drop_succ_cons, List.drop_zero]
      refine wpL_val ?v21 rfl (by rfl) (fun wq hq => ?y21) ?z21
      case y21 => go_simp; exact known_any _ (Hk.out.below (hB6.trans (hq.mono hB6.size)) (Nat.le_refl _))
      try simp only [Act.put, List.setIfInBounds_toArray, List.set_cons_zero, List.set_cons_succ]
      refine wpL_val ?v22 rfl (by rfl) (fun wq hq => ?y22) ?z22
      case y22 => go_simp; with_reducible rfl
      try simp only [Act.put, List.setIfInBounds_toArray, List.set_cons_zero, List.set_cons_succ]
      refine wpL_val (.agg la.toArray) rfl (by rfl) (fun wq hq => quiet_ld 24 _ rfl _ _ rfl la _ (range_below R1 hq hlt1) hu.out rfl hI.out) ?_
      try simp only [Act.put, List.setIfInBounds_toArray, List.set_cons_zero, List.set_cons_succ]
      refine wpL_val ?v24 rfl (by rfl) (fun wq hq => ?y24) ?z24
      case y24 => go_simp; with_reducible rfl
      try simp only [Act.put, List.setIfInBounds_toArray, List.set_cons_zero, List.set_cons_succ]
      refine wpL_val ?v25 rfl (by rfl) (fun wq hq => ?y25) ?z25
      case y25 => go_simp; exact ra _
      try simp only [Act.put, List.setIfInBounds_toArray, List.set_cons_zero, List.set_cons_succ]
      refine wpL_val ?v26 rfl (by rfl) (fun wq hq => ?y26) ?z26
      case y26 => (try rw [HA.out]); go_simp; rw [eqlR a a ha ha _ _ HA.out HA.out, decide_eq_true rfl]; go_simp; with_reducible rfl
      try simp only [Act.put, List.setIfInBounds_toArray, List.set_cons_zero, List.set_cons_succ]
      refine wpL_val ?v27 rfl (by rfl) (fun wq hq => ?y27) ?z27
      case y27 => go_simp; with_reducible rfl
      try simp only [Act.put, List.setIfInBounds_toArray, List.set_cons_zero, List.set_cons_succ]
      refine wpL_val ?v28 rfl (by rfl) (fun wq hq => ?y28) ?z28
      case y28 => go_simp; with_reducible rfl
      try simp only [Act.put, List.setIfInBounds_toArray, List.set_cons_zero, List.set_cons_succ]
      refine wpL_val (.agg la.toArray) rfl (by rfl) (fun wq hq => quiet_ld 24 _ rfl _ _ rfl la _ (range_below R1 hq hlt1) hu.out rfl hI.out) ?_
      try simp only [Act.put, List.setIfInBounds_toArray, List.set_cons_zero, List.set_cons_succ]
      refine wpL_val (.agg lb.toArray) rfl (by rfl) (fun wq hq => quiet_ld 24 _ rfl _ _ rfl lb _ (range_below R2 hq hlt2) hu.out rfl hI2.out) ?_
      try simp only [Act.put, List.setIfInBounds_toArray, List.set_cons_zero, List.set_cons_succ]
      refine wpL_val ?v31 rfl (by rfl) (fun wq hq => ?y31) ?z31
      case y31 => go_simp; exact cn _ _ HA.out HB.out _ (Hk.out.below (hB6.trans (hq.mono hB6.size)) (Nat.le_refl _))
      try simp only [Act.put, List.setIfInBounds_toArray, List.set_cons_zero, List.set_cons_succ]
      refine wpL_val ?v32 rfl (by rfl) (fun wq hq => ?y32) ?z32
      case y32 => go_simp; with_reducible rfl
      try simp only [Act.put, List.setIfInBounds_toArray, List.set_cons_zero, List.set_cons_succ]
      refine wpL_val ?v33 rfl (by rfl) (fun wq hq => ?y33) ?z33
      case y33 => go_simp; exact ra _
      try simp only [Act.put, List.setIfInBounds_toArray, List.set_cons_zero, List.set_cons_succ]
      refine wpL_val ?v34 rfl (by rfl) (fun wq hq => ?y34) ?z34
      case y34 => go_simp; with_reducible rfl
      try simp only [Act.put, List.setIfInBounds_toArray, List.set_cons_zero, List.set_cons_succ]
      refine wpL_val ?v35 rfl (by rfl) (fun wq hq => ?y35) ?z35
      case y35 => go_simp; exact rb _
      try simp only [Act.put, List.setIfInBounds_toArray, List.set_cons_zero, List.set_cons_succ]
      refine wpL_val ?v36 rfl (by rfl) (fun wq hq => ?y36) ?z36
      case y36 => go_simp; exact rn _ _ rfl rfl _
      try simp only [Act.put, List.setIfInBounds_toArray, List.set_cons_zero, List.set_cons_succ]
      refine wpL_val ?v37 rfl (by rfl) (fun wq hq => ?y37) ?z37
      case y37 => (try rw [HC.out]); go_simp; rw [eqlR c c hc hc _ _ HC.out HC.out, decide_eq_true rfl]; go_simp; with_reducible rfl
      try simp only [Act.put, List.setIfInBounds_toArray, List.set_cons_zero, List.set_cons_succ]
      refine wpL_val ?v38 rfl (by rfl) (fun wq hq => ?y38) ?z38
      case y38 => go_simp; with_reducible rfl
      try simp only [Act.put, List.setIfInBounds_toArray, List.set_cons_zero, List.set_cons_succ]
      refine wpL_val ?v39 rfl (by rfl) (fun wq hq => ?y39) ?z39
      case y39 => go_simp; with_reducible rfl
      try simp only [Act.put, List.setIfInBounds_toArray, List.set_cons_zero, List.set_cons_succ]
      refine wpL_val ?v40 rfl (by rfl) (fun wq hq => ?y40) ?z40
      case y40 => go_simp; exact ze _ (Hk.out.below (hB6.trans (hq.mono hB6.size)) (Nat.le_refl _))
      try simp only [Act.put, List.setIfInBounds_toArray, List.set_cons_zero, List.set_cons_succ]
      refine wpL_val ?v41 rfl (by rfl) (fun wq hq => ?y41) ?z41
      case y41 => go_simp; exact zr _
      try simp only [Act.put, List.setIfInBounds_toArray, List.set_cons_zero, List.set_cons_succ]
      refine wpL_val ?v42 rfl (by rfl) (fun wq hq => ?y42) ?z42
      case y42 => (try rw [HE.out]); go_simp; rw [eqlR z z hz hz _ _ HE.out HE.out, decide_eq_true rfl]; go_simp; with_reducible rfl
      try simp only [Act.put, List.setIfInBounds_toArray, List.set_cons_zero, List.set_cons_succ]
      refine wpL_val ?v43 rfl (by rfl) (fun wq hq => ?y43) ?z43
      case y43 => go_simp; with_reducible rfl
      try simp only [Act.put, List.setIfInBounds_toArray, List.set_cons_zero, List.set_cons_succ]
      refine wpL_val ?v44 rfl (by rfl) (fun wq hq => ?y44) ?z44
      case y44 => go_simp; with_reducible rfl
      try simp only [Act.put, List.setIfInBounds_toArray, List.set_cons_zero, List.set_cons_succ]
      refine wpL_val ?v45 rfl (by rfl) (fun wq hq => ?y45) ?z45
      case y45 => go_simp; with_reducible rfl
      try simp only [Act.put, List.setIfInBounds_toArray, List.set_cons_zero, List.set_cons_succ]
      refine wpL_val ?v46 rfl (by rfl) (fun wq hq => ?y46) ?z46
      case y46 => go_simp; with_reducible rfl
      try simp only [Act.put, List.setIfInBounds_toArray, List.set_cons_zero, List.set_cons_succ]
      refine wpL_val ?v47 rfl (by rfl) (fun wq hq => ?y47) ?z47
      case y47 => go_simp; with_reducible rfl
      try simp only [Act.put, List.setIfInBounds_toArray, List.set_cons_zero, List.set_cons_succ]
      refine wpL_val ?v48 rfl (by rfl) (fun wq hq => ?y48) ?z48
      case y48 => go_simp; with_reducible rfl
      try simp only [Act.put, List.setIfInBounds_toArray, List.set_cons_zero, List.set_cons_succ]
      refine wpL_val (.agg lr.toArray) rfl (by rfl) (fun wq hq => quiet_ld 24 _ rfl _ _ rfl lr _ (range_below R3 hq hlt3) hu.out rfl hI3.out) ?_
      try simp only [Act.put, List.setIfInBounds_toArray, List.set_cons_zero, List.set_cons_succ]
      refine wpL_val ?v50 rfl (by rfl) (fun wq hq => ?y50) ?z50
      case y50 => go_simp; with_reducible rfl
      try simp only [Act.put, List.setIfInBounds_toArray, List.set_cons_zero, List.set_cons_succ]
      refine wpL_val ?v51 rfl (by rfl) (fun wq hq => ?y51) ?z51
      case y51 => go_simp; exact rr _ (HDT.out.below (hB6.trans (hq.mono hB6.size)) (Nat.le_refl _))
      try simp only [Act.put, List.setIfInBounds_toArray, List.set_cons_zero, List.set_cons_succ]
      refine wpL_val ?v52 rfl (by rfl) (fun wq hq => ?y52) ?z52
      case y52 => (try rw [HR.out]); go_simp; rw [eqlR r r hr hr _ _ HR.out HR.out, decide_eq_true rfl]; go_simp; with_reducible rfl
      try simp only [Act.put, List.setIfInBounds_toArray, List.set_cons_zero, List.set_cons_succ]
      refine wpL_val ?v53 rfl (by rfl) (fun wq hq => ?y53) ?z53
      case y53 => go_simp; with_reducible rfl
      try simp only [Act.put, List.setIfInBounds_toArray, List.set_cons_zero, List.set_cons_succ]
      refine wpL_nil ?_
      intro wt hwt
      go_wp2_with fail
      go_ret
      exact ⟨rfl, hB0.trans ((hB6.trans (hwt.mono hB6.size)).mono hB0.size)⟩
    · have hV2 := hV
      clear hV hs3 k3 k6
      have hd40 : ([] : List (List UInt8)).length ≤ 1048576 := by decide
      generalize ([] : List (List UInt8)) = dt at hV2 hd40
      have h0cap : (0 : Int) ≤ (cap : Int) := by omega
      have h040 : min (0 : Int) (40 : Int) = 0 := rfl
      go_enter Tryd.func3, Tryd.ntmps3
      go_upto_region 1 with (fail)
      refine wp_region_class 17 [] [0, 1, 2, 3, 4, 5, 6, 7, 8, 9, 10, 11, 12, 13, 14, 15, 16] (Below w.heap.size w) (Stable.below w) (Below.refl _ _).drew (by kernel_rfl) (by kernel_rfl) ?_
      simp only [opsOf, List.getElem?_cons_succ, List.getElem?_cons_zero, List.drop_succ_cons, List.drop_zero]
      refine wpL_val ?v56 rfl (by rfl) (fun wq hq => ?y56) ?z56
      case y56 => go_simp; with_reducible rfl
      try simp only [Act.put, List.setIfInBounds_toArray, List.set_cons_zero, List.set_cons_succ]
      refine wpL_val ?v57 rfl (by rfl) (fun wq hq => ?y57) ?z57
      case y57 => go_simp; with_reducible rfl
      try simp only [Act.put, List.setIfInBounds_toArray, List.set_cons_zero, List.set_cons_succ]
      refine wpL_val ?v58 rfl (by rfl) (fun wq hq => ?y58) ?z58
      case y58 => go_simp; with_reducible rfl
      try simp only [Act.put, List.setIfInBounds_toArray, List.set_cons_zero, List.set_cons_succ]
      refine wpL_val ?v59 rfl (by rfl) (fun wq hq => ?y59) ?z59
      case y59 => go_simp; with_reducible rfl
      try simp only [Act.put, List.setIfInBounds_toArray, List.set_cons_zero, List.set_cons_succ]
      refine wpL_val ?v60 rfl (by rfl) (fun wq hq => ?y60) ?z60
      case y60 => go_simp; with_reducible rfl
      try simp only [Act.put, List.setIfInBounds_toArray, List.set_cons_zero, List.set_cons_succ]
      refine wpL_val ?v61 rfl (by rfl) (fun wq hq => ?y61) ?z61
      case y61 => go_simp; with_reducible rfl
      try simp only [Act.put, List.setIfInBounds_toArray, List.set_cons_zero, List.set_cons_succ]
      refine wpL_val ?v62 rfl (by rfl) (fun wq hq => ?y62) ?z62
      case y62 => go_simp; with_reducible rfl
      try simp only [Act.put, List.setIfInBounds_toArray, List.set_cons_zero, List.set_cons_succ]
      refine wpL_val ?v63 rfl (by rfl) (fun wq hq => ?y63) ?z63
      case y63 => go_simp; with_reducible rfl
      try simp only [Act.put, List.setIfInBounds_toArray, List.set_cons_zero, List.set_cons_succ]
      refine wpL_val ?v64 rfl (by rfl) (fun wq hq => ?y64) ?z64
      case y64 => go_simp; with_reducible rfl
      try simp only [Act.put, List.setIfInBounds_toArray, List.set_cons_zero, List.set_cons_succ]
      refine wpL_val ?v65 rfl (by rfl) (fun wq hq => ?y65) ?z65
      case y65 => go_simp; with_reducible rfl
      try simp only [Act.put, List.setIfInBounds_toArray, List.set_cons_zero, List.set_cons_succ]
      refine wpL_val ?v66 rfl (by rfl) (fun wq hq => ?y66) ?z66
      case y66 => go_simp; with_reducible rfl
      try simp only [Act.put, List.setIfInBounds_toArray, List.set_cons_zero, List.set_cons_succ]
      refine wpL_val ?v67 rfl (by rfl) (fun wq hq => ?y67) ?z67
      case y67 => go_simp; with_reducible rfl
      try simp only [Act.put, List.setIfInBounds_toArray, List.set_cons_zero, List.set_cons_succ]
      refine wpL_val ?v68 rfl (by rfl) (fun wq hq => ?y68) ?z68
      case y68 => go_simp; with_reducible rfl
      try simp only [Act.put, List.setIfInBounds_toArray, List.set_cons_zero, List.set_cons_succ]
      refine wpL_val ?v69 rfl (by rfl) (fun wq hq => ?y69) ?z69
      case y69 => go_simp; with_reducible rfl
      try simp only [Act.put, List.setIfInBounds_toArray, List.set_cons_zero, List.set_cons_succ]
      refine wpL_val ?v70 rfl (by rfl) (fun wq hq => ?y70) ?z70
      case y70 => go_simp; with_reducible rfl
      try simp only [Act.put, List.setIfInBounds_toArray, List.set_cons_zero, List.set_cons_succ]
      refine wpL_val ?v71 rfl (by rfl) (fun wq hq => ?y71) ?z71
      case y71 => go_simp; with_reducible rfl
      try simp only [Act.put, List.setIfInBounds_toArray, List.set_cons_zero, List.set_cons_succ]
      refine wpL_val ?v72 rfl (by rfl) (fun wq hq => ?y72) ?z72
      case y72 => go_simp; with_reducible rfl
      try simp only [Act.put, List.setIfInBounds_toArray, List.set_cons_zero, List.set_cons_succ]
      refine wpL_nil ?_
      intro wt hwt
      have hB0 := hwt
      clear hs1 hs2 k1 k2 k4 k5 h040 h0cap hwt
      replace hV2 := hV2.below hB0 (Nat.le_refl _)
      replace Hk := Lib.hid (Hk.out.below hB0 (Nat.le_refl _))
      have HV2 := Lib.hid hV2
      have HL1 := Lib.hid hl1; have HL2 := Lib.hid hl2
      clear hl1 hl2
      have ha := Sha.leaf_length l1
      have hb := Sha.leaf_length l2
      have ca := fun w hK => leaf_any l1 hn1 w hK
      have cb := fun w hK => leaf_any l2 hn2 w hK
      have ra := fun w => leafR_any l1 hn1 w
      have rb := fun w => leafR_any l2 hn2 w
      generalize Sha.leaf l1 = a at *
      generalize Sha.leaf l2 = b at *
      have hc := Sha.node_length a b
      have cn := fun va vb hA hB w hK => node_la a b ha hb va vb hA hB w hK
      have rn := fun va vb hA hB w => nodeR_la a b ha hb va vb hA hB w
      generalize Sha.node a b = c at *
      have hz := Sha.empty_length
      have ze := empty_any
      have zr := emptyR_any
      generalize Sha.empty = z at *
      have hr := mtree_length dt HV2.out.all
      have rr := fun w hV => rootE_any dt (Value.slice (some ad) 0 cap) w hd40 hV
      have hro := fun w hV => own_any dt (Value.slice (some ad) 0 cap) w hd40 hV
      have hrt := fun v w hV hK => treeroot_any dt v w hd40 hV hK
      generalize mtree dt = r at *
      obtain ⟨la, hA, -, hal, hao⟩ := v8_list a ha
      obtain ⟨lb, hB, -, hbl, hbo⟩ := v8_list b hb
      obtain ⟨lc, hC, -, hcl, hco⟩ := v8_list c hc
      obtain ⟨lz, hZ, -, hzl, hzo⟩ := v8_list z hz
      obtain ⟨lr, hR, -, hrl, hrro⟩ := v8_list r hr
      have HA := Lib.hid hA; have HB := Lib.hid hB; have HC := Lib.hid hC; have HE := Lib.hid hZ; have HR := Lib.hid hR
      clear hA hB hC hZ hR
      go_wp2_with fail
      refine (ca _ Hk.out).mono ?_
      rintro e w1 ⟨rfl, hb1⟩
      go_wp2_with fail
      refine (cb _ (Hk.out.below hb1 (Nat.le_refl _))).mono ?_
      rintro e w2 ⟨rfl, hb2⟩
      have hB2 := hb1.trans (hb2.mono hb1.size)
      clear hb1 hb2
      rw [HA.out, HB.out]
      have h2 := Lib.hid (two_vars w2 24 la lb)
      have HI := Lib.hid (inf_size infD32 la hal); have HI2 := Lib.hid (inf_size infD32 lb hbl); have HI3 := Lib.hid (inf_size infD32 lr hrl)
      have HS := Lib.hid (st_size la hal); have HS2 := Lib.hid (st_size lb hbl); have HS3 := Lib.hid (st_size lr hrl)
      have HO := Lib.hid (all_oneCell_toArray hao); have HO2 := Lib.hid (all_oneCell_toArray hbo); have HO3 := Lib.hid (all_oneCell_toArray hrro)
      clear hao hbo hco hzo hrro
      have hu := Lib.hid Tryd.underlying24
      go_upto_region 3 with (first | ((with_reducible refine at_st 24 (.tmp 7) (.tmp 27) ?_); refine wpList_store_row rfl 24 (.tmp 7) (.tmp 27) rfl w2.heap.size la.toArray rfl rfl 24 _ h2.out.1 HI.out HS.out HO.out ?_) | ((with_reducible refine at_st 24 (.tmp 8) (.tmp 29) ?_); refine wpList_store_row rfl 24 (.tmp 8) (.tmp 29) rfl (w2.heap.size + 1) lb.toArray rfl rfl 24 _ h2.out.2.1 HI2.out HS2.out HO2.out ?_))
      have h3 := h2.out.2.2
      clear h2
      change Code.wp _ _ _ _ ((((w2.alloc (Z32 24)).alloc (Z32 24)).setRow w2.heap.size la.toArray).setRow (w2.heap.size + 1) lb.toArray)
      generalize (((w2.alloc (Z32 24)).alloc (Z32 24)).setRow w2.heap.size la.toArray).setRow (w2.heap.size + 1) lb.toArray = w3 at *
      have h4 := h3.1; have h5 := h3.2.1; have hB3 := hB2.trans (h3.2.2.1.mono hB2.size)
      clear h3 hB2
      generalize w2.heap.size = g1 at *
      go_wp2_with fail
      refine (hro _ (HV2.out.below hB3 (Nat.le_refl _))).mono ?_
      rintro e w4 ⟨⟨v4, rfl, hV4⟩, hb4⟩
      have hB4 := hB3.trans (hb4.mono hB3.size)
      have h44 := h4.below hb4 h4.lt
      have h54 := h5.below hb4 h5.lt
      clear h4 h5 hB3 hb4
      go_wp2_with fail
      refine (hrt _ _ hV4 (Hk.out.below hB4 (Nat.le_refl _))).mono ?_
      rintro e w5 ⟨rfl, hb5⟩
      rw [HR.out]
      have hB5 := hB4.trans (hb5.mono hB4.size)
      have h45 := h44.below hb5 h44.lt
      have h55 := h54.below hb5 h54.lt
      clear h44 h54 hB4 hb5 hV4
      have h6 := Lib.hid (one_var w5 24 lr)
      go_upto_region 4 with (first | ((with_reducible refine at_st 24 (.tmp 9) (.tmp 34) ?_); refine wpList_store_row rfl 24 (.tmp 9) (.tmp 34) rfl w5.heap.size lr.toArray rfl rfl 24 _ h6.out.1 HI3.out HS3.out HO3.out ?_))
      have h7 := h6.out.2
      clear h6
      change Code.wp _ _ _ _ ((w5.alloc (Z32 24)).setRow w5.heap.size lr.toArray)
      generalize (w5.alloc (Z32 24)).setRow w5.heap.size lr.toArray = w6 at *
      have h46 := h45.below h7.2.1 h45.lt
      have h56 := h55.below h7.2.1 h55.lt
      have h66 := h7.1
      have hB6 := hB5.trans (h7.2.1.mono hB5.size)
      generalize w5.heap.size = g3 at *
      clear h45 h55 h7 hB5
      have R1 := h46.range; have R2 := h56.range; have R3 := h66.range
      have hI := Lib.hid (show (Tryd.prog.info? 24).map (·.size) = some la.length by rw [hal]; exact infD32)
      have hI2 := Lib.hid (show (Tryd.prog.info? 24).map (·.size) = some lb.length by rw [hbl]; exact infD32)
      have hI3 := Lib.hid (show (Tryd.prog.info? 24).map (·.size) = some lr.length by rw [hrl]; exact infD32)
      have hlt1 : g1 < w6.heap.size := h46.lt
      have hlt2 : g1 + 1 < w6.heap.size := h56.lt
      have hlt3 : g3 < w6.heap.size := h66.lt
      have HDT := HV2
      clear hV2
      refine wp_region_class 33 [] [0, 1, 2, 3, 4, 5, 6, 7, 8, 9, 10, 11, 12, 13, 14, 15, 16, 17, 18, 19, 20, 21, 22, 23, 24, 25, 26, 27, 28, 29, 30, 31, 32] (Below w6.heap.size w6) (Stable.below w6) (Below.refl _ _).drew (by kernel_rfl) (by kernel_rfl) ?_
      simp only [opsOf, List.getElem?_cons_succ, List.getElem?_cons_zero, List.drop_succ_cons, List.drop_zero]
      refine wpL_val ?v75 rfl (by rfl) (fun wq hq => ?y75) ?z75
      case y75 => go_simp; exact known_any _ (Hk.out.below (hB6.trans (hq.mono hB6.size)) (Nat.le_refl _))
      try simp only [Act.put, List.setIfInBounds_toArray, List.set_cons_zero, List.set_cons_succ]
      refine wpL_val ?v76 rfl (by rfl) (fun wq hq => ?y76) ?z76
      case y76 => go_simp; with_reducible rfl
      try simp only [Act.put, List.setIfInBounds_toArray, List.set_cons_zero, List.set_cons_succ]
      refine wpL_val (.agg la.toArray) rfl (by rfl) (fun wq hq => quiet_ld 24 _ rfl _ _ rfl la _ (range_below R1 hq hlt1) hu.out rfl hI.out) ?_
      try simp only [Act.put, List.setIfInBounds_toArray, List.set_cons_zero, List.set_cons_succ]
      refine wpL_val ?v78 rfl (by rfl) (fun wq hq => ?y78) ?z78
      case y78 => go_simp; with_reducible rfl
      try simp only [Act.put, List.setIfInBounds_toArray, List.set_cons_zero, List.set_cons_succ]
      refine wpL_val ?v79 rfl (by rfl) (fun wq hq => ?y79) ?z79
      case y79 => go_simp; exact ra _
      try simp only [Act.put, List.setIfInBounds_toArray, List.set_cons_zero, List.set_cons_succ]
      refine wpL_val ?v80 rfl (by rfl) (fun wq hq => ?y80) ?z80
      case y80 => (try rw [HA.out]); go_simp; rw [eqlR a a ha ha _ _ HA.out HA.out, decide_eq_true rfl]; go_simp; with_reducible rfl
      try simp only [Act.put, List.setIfInBounds_toArray, List.set_cons_zero, List.set_cons_succ]
      refine wpL_val ?v81 rfl (by rfl) (fun wq hq => ?y81) ?z81
      case y81 => go_simp; with_reducible rfl
      try simp only [Act.put, List.setIfInBounds_toArray, List.set_cons_zero, List.set_cons_succ]
      refine wpL_val ?v82 rfl (by rfl) (fun wq hq => ?y82) ?z82
      case y82 => go_simp; with_reducible rfl
      try simp only [Act.put, List.setIfInBounds_toArray, List.set_cons_zero, List.set_cons_succ]
      refine wpL_val (.agg la.toArray) rfl (by rfl) (fun wq hq => quiet_ld 24 _ rfl _ _ rfl la _ (range_below R1 hq hlt1) hu.out rfl hI.out) ?_
      try simp only [Act.put, List.setIfInBounds_toArray, List.set_cons_zero, List.set_cons_succ]
      refine wpL_val (.agg lb.toArray) rfl (by rfl) (fun wq hq => quiet_ld 24 _ rfl _ _ rfl lb _ (range_below R2 hq hlt2) hu.out rfl hI2.out) ?_
      try simp only [Act.put, List.setIfInBounds_toArray, List.set_cons_zero, List.set_cons_succ]
      refine wpL_val ?v85 rfl (by rfl) (fun wq hq => ?y85) ?z85
      case y85 => go_simp; exact cn _ _ HA.out HB.out _ (Hk.out.below (hB6.trans (hq.mono hB6.size)) (Nat.le_refl _))
      try simp only [Act.put, List.setIfInBounds_toArray, List.set_cons_zero, List.set_cons_succ]
      refine wpL_val ?v86 rfl (by rfl) (fun wq hq => ?y86) ?z86
      case y86 => go_simp; with_reducible rfl
      try simp only [Act.put, List.setIfInBounds_toArray, List.set_cons_zero, List.set_cons_succ]
      refine wpL_val ?v87 rfl (by rfl) (fun wq hq => ?y87) ?z87
      case y87 => go_simp; exact ra _
      try simp only [Act.put, List.setIfInBounds_toArray, List.set_cons_zero, List.set_cons_succ]
      refine wpL_val ?v88 rfl (by rfl) (fun wq hq => ?y88) ?z88
      case y88 => go_simp; with_reducible rfl
      try simp only [Act.put, List.setIfInBounds_toArray, List.set_cons_zero, List.set_cons_succ]
      refine wpL_val ?v89 rfl (by rfl) (fun wq hq => ?y89) ?z89
      case y89 => go_simp; exact rb _
      try simp only [Act.put, List.setIfInBounds_toArray, List.set_cons_zero, List.set_cons_succ]
      refine wpL_val ?v90 rfl (by rfl) (fun wq hq => ?y90) ?z90
      case y90 => go_simp; exact rn _ _ rfl rfl _
      try simp only [Act.put, List.setIfInBounds_toArray, List.set_cons_zero, List.set_cons_succ]
      refine wpL_val ?v91 rfl (by rfl) (fun wq hq => ?y91) ?z91
      case y91 => (try rw [HC.out]); go_simp; rw [eqlR c c hc hc _ _ HC.out HC.out, decide_eq_true rfl]; go_simp; with_reducible rfl
      try simp only [Act.put, List.setIfInBounds_toArray, List.set_cons_zero, List.set_cons_succ]
      refine wpL_val ?v92 rfl (by rfl) (fun wq hq => ?y92) ?z92
      case y92 => go_simp; with_reducible rfl
      try simp only [Act.put, List.setIfInBounds_toArray, List.set_cons_zero, List.set_cons_succ]
      refine wpL_val ?v93 rfl (by rfl) (fun wq hq => ?y93) ?z93
      case y93 => go_simp; with_reducible rfl
      try simp only [Act.put, List.setIfInBounds_toArray, List.set_cons_zero, List.set_cons_succ]
      refine wpL_val ?v94 rfl (by rfl) (fun wq hq => ?y94) ?z94
      case y94 => go_simp; exact ze _ (Hk.out.below (hB6.trans (hq.mono hB6.size)) (Nat.le_refl _))
      try simp only [Act.put, List.setIfInBounds_toArray, List.set_cons_zero, List.set_cons_succ]
      refine wpL_val ?v95 rfl (by rfl) (fun wq hq => ?y95) ?z95
      case y95 => go_simp; exact zr _
      try simp only [Act.put, List.setIfInBounds_toArray, List.set_cons_zero, List.set_cons_succ]
      refine wpL_val ?v96 rfl (by rfl) (fun wq hq => ?y96) ?z96
      case y96 => (try rw [HE.out]); go_simp; rw [eqlR z z hz hz _ _ HE.out HE.out, decide_eq_true rfl]; go_simp; with_reducible rfl
      try simp only [Act.put, List.setIfInBounds_toArray, List.set_cons_zero, List.set_cons_succ]
      refine wpL_val ?v97 rfl (by rfl) (fun wq hq => ?y97) ?z97
      case y97 => go_simp; with_reducible rfl
      try simp only [Act.put, List.setIfInBounds_toArray, List.set_cons_zero, List.set_cons_succ]
      refine wpL_val ?v98 rfl (by rfl) (fun wq hq => ?y98) ?z98
      case y98 => go_simp; with_reducible rfl
      try simp only [Act.put, List.setIfInBounds_toArray, List.set_cons_zero, List.set_cons_succ]
      refine wpL_val ?v99 rfl (by rfl) (fun wq hq => ?y99) ?z99
      case y99 => go_simp; with_reducible rfl
      try simp only [Act.put, List.setIfInBounds_toArray, List.set_cons_zero, List.set_cons_succ]
      refine wpL_val ?v100 rfl (by rfl) (fun wq hq => ?y100) ?z100
      case y100 => go_simp; with_reducible rfl
      try simp only [Act.put, List.setIfInBounds_toArray, List.set_cons_zero, List.set_cons_succ]
      refine wpL_val ?v101 rfl (by rfl) (fun wq hq => ?y101) ?z101
      case y101 => go_simp; with_reducible rfl
      try simp only [Act.put, List.setIfInBounds_toArray, List.set_cons_zero, List.set_cons_succ]
      refine wpL_val ?v102 rfl (by rfl) (fun wq hq => ?y102) ?z102
      case y102 => go_simp; with_reducible rfl
      try simp only [Act.put, List.setIfInBounds_toArray, List.set_cons_zero, List.set_cons_succ]
      refine wpL_val (.agg lr.toArray) rfl (by rfl) (fun wq hq => quiet_ld 24 _ rfl _ _ rfl lr _ (range_below R3 hq hlt3) hu.out rfl hI3.out) ?_
      try simp only [Act.put, List.setIfInBounds_toArray, List.set_cons_zero, List.set_cons_succ]
      refine wpL_val ?v104 rfl (by rfl) (fun wq hq => ?y104) ?z104
      case y104 => go_simp; with_reducible rfl
      try simp only [Act.put, List.setIfInBounds_toArray, List.set_cons_zero, List.set_cons_succ]
      refine wpL_val ?v105 rfl (by rfl) (fun wq hq => ?y105) ?z105
      case y105 => go_simp; exact rr _ (HDT.out.below (hB6.trans (hq.mono hB6.size)) (Nat.le_refl _))
      try simp only [Act.put, List.setIfInBounds_toArray, List.set_cons_zero, List.set_cons_succ]
      refine wpL_val ?v106 rfl (by rfl) (fun wq hq => ?y106) ?z106
      case y106 => (try rw [HR.out]); go_simp; rw [eqlR r r hr hr _ _ HR.out HR.out, decide_eq_true rfl]; go_simp; with_reducible rfl
      try simp only [Act.put, List.setIfInBounds_toArray, List.set_cons_zero, List.set_cons_succ]
      refine wpL_val ?v107 rfl (by rfl) (fun wq hq => ?y107) ?z107
      case y107 => go_simp; with_reducible rfl
      try simp only [Act.put, List.setIfInBounds_toArray, List.set_cons_zero, List.set_cons_succ]
      refine wpL_nil ?_
      intro wt hwt
      go_wp2_with fail
      go_ret
      exact ⟨rfl, hB0.trans ((hB6.trans (hwt.mono hB6.size)).mono hB0.size)⟩
  · have hV2 := hV.take (min ds.length 40) k3
    have hd40 : (ds.take (min ds.length 40)).length ≤ 1048576 := by simp; omega
    have k7 : min ds.length 40 ≤ cap := by omega
    generalize ds.take (min ds.length 40) = dt at hV2 hd40
    generalize min ds.length 40 = n3 at *
    generalize ds.length = n at *
    clear hV hr
    go_enter Tryd.func3, Tryd.ntmps3
    go_upto_region 1 with (fail)
    refine wp_region_class 17 [] [0, 1, 2, 3, 4, 5, 6, 7, 8, 9, 10, 11, 12, 13, 14, 15, 16] (Below w.heap.size w) (Stable.below w) (Below.refl _ _).drew (by kernel_rfl) (by kernel_rfl) ?_
    simp only [opsOf, List.getElem?_cons_succ, List.getElem?_cons_zero, List.drop_succ_cons, List.drop_zero]
    refine wpL_val ?v110 rfl (by rfl) (fun wq hq => ?y110) ?z110
    case y110 => go_simp; with_reducible rfl
    try simp only [Act.put, List.setIfInBounds_toArray, List.set_cons_zero, List.set_cons_succ]
    refine wpL_val ?v111 rfl (by rfl) (fun wq hq => ?y111) ?z111
    case y111 => go_simp; with_reducible rfl
    try simp only [Act.put, List.setIfInBounds_toArray, List.set_cons_zero, List.set_cons_succ]
    refine wpL_val ?v112 rfl (by rfl) (fun wq hq => ?y112) ?z112
    case y112 => go_simp; with_reducible rfl
    try simp only [Act.put, List.setIfInBounds_toArray, List.set_cons_zero, List.set_cons_succ]
    refine wpL_val ?v113 rfl (by rfl) (fun wq hq => ?y113) ?z113
    case y113 => go_simp; with_reducible rfl
    try simp only [Act.put, List.setIfInBounds_toArray, List.set_cons_zero, List.set_cons_succ]
    refine wpL_val ?v114 rfl (by rfl) (fun wq hq => ?y114) ?z114
    case y114 => go_simp; with_reducible rfl
    try simp only [Act.put, List.setIfInBounds_toArray, List.set_cons_zero, List.set_cons_succ]
    refine wpL_val ?v115 rfl (by rfl) (fun wq hq => ?y115) ?z115
    case y115 => go_simp; with_reducible rfl
    try simp only [Act.put, List.setIfInBounds_toArray, List.set_cons_zero, List.set_cons_succ]
    refine wpL_val ?v116 rfl (by rfl) (fun wq hq => ?y116) ?z116
    case y116 => go_simp; with_reducible rfl
    try simp only [Act.put, List.setIfInBounds_toArray, List.set_cons_zero, List.set_cons_succ]
    refine wpL_val ?v117 rfl (by rfl) (fun wq hq => ?y117) ?z117
    case y117 => go_simp; with_reducible rfl
    try simp only [Act.put, List.setIfInBounds_toArray, List.set_cons_zero, List.set_cons_succ]
    refine wpL_val ?v118 rfl (by rfl) (fun wq hq => ?y118) ?z118
    case y118 => go_simp; with_reducible rfl
    try simp only [Act.put, List.setIfInBounds_toArray, List.set_cons_zero, List.set_cons_succ]
    refine wpL_val ?v119 rfl (by rfl) (fun wq hq => ?y119) ?z119
    case y119 => go_simp; with_reducible rfl
    try simp only [Act.put, List.setIfInBounds_toArray, List.set_cons_zero, List.set_cons_succ]
    refine wpL_val ?v120 rfl (by rfl) (fun wq hq => ?y120) ?z120
    case y120 => go_simp; with_reducible rfl
    try simp only [Act.put, List.setIfInBounds_toArray, List.set_cons_zero, List.set_cons_succ]
    refine wpL_val ?v121 rfl (by rfl) (fun wq hq => ?y121) ?z121
    case y121 => go_simp; with_reducible rfl
    try simp only [Act.put, List.setIfInBounds_toArray, List.set_cons_zero, List.set_cons_succ]
    refine wpL_val ?v122 rfl (by rfl) (fun wq hq => ?y122) ?z122
    case y122 => go_simp; with_reducible rfl
    try simp only [Act.put, List.setIfInBounds_toArray, List.set_cons_zero, List.set_cons_succ]
    refine wpL_val ?v123 rfl (by rfl) (fun wq hq => ?y123) ?z123
    case y123 => go_simp; with_reducible rfl
    try simp only [Act.put, List.setIfInBounds_toArray, List.set_cons_zero, List.set_cons_succ]
    refine wpL_val ?v124 rfl (by rfl) (fun wq hq => ?y124) ?z124
    case y124 => go_simp; with_reducible rfl
    try simp only [Act.put, List.setIfInBounds_toArray, List.set_cons_zero, List.set_cons_succ]
    refine wpL_val ?v125 rfl (by rfl) (fun wq hq => ?y125) ?z125
    case y125 => go_simp; with_reducible rfl
    try simp only [Act.put, List.setIfInBounds_toArray, List.set_cons_zero, List.set_cons_succ]
    refine wpL_val ?v126 rfl (by rfl) (fun wq hq => ?y126) ?z126
    case y126 => go_simp; with_reducible rfl
    try simp only [Act.put, List.setIfInBounds_toArray, List.set_cons_zero, List.set_cons_succ]
    refine wpL_nil ?_
    intro wt hwt
    have hB0 := hwt
    clear hs1 hs2 hs3 k1 k2 k3 k4 k5 k6 k7 hcap hg hwt
    replace hV2 := hV2.below hB0 (Nat.le_refl _)
    replace Hk := Lib.hid (Hk.out.below hB0 (Nat.le_refl _))
    have HV2 := Lib.hid hV2
    have HL1 := Lib.hid hl1; have HL2 := Lib.hid hl2
    clear hl1 hl2
    have ha := Sha.leaf_length l1
    have hb := Sha.leaf_length l2
    have ca := fun w hK => leaf_any l1 hn1 w hK
    have cb := fun w hK => leaf_any l2 hn2 w hK
    have ra := fun w => leafR_any l1 hn1 w
    have rb := fun w => leafR_any l2 hn2 w
    generalize Sha.leaf l1 = a at *
    generalize Sha.leaf l2 = b at *
    have hc := Sha.node_length a b
    have cn := fun va vb hA hB w hK => node_la a b ha hb va vb hA hB w hK
    have rn := fun va vb hA hB w => nodeR_la a b ha hb va vb hA hB w
    generalize Sha.node a b = c at *
    have hz := Sha.empty_length
    have ze := empty_any
    have zr := emptyR_any
    generalize Sha.empty = z at *
    have hr := mtree_length dt HV2.out.all
    have rr := fun w hV => rootE_any dt (Value.slice (some ⟨g, o, none⟩) n3 cap) w hd40 hV
    have hro := fun w hV => own_any dt (Value.slice (some ⟨g, o, none⟩) n3 cap) w hd40 hV
    have hrt := fun v w hV hK => treeroot_any dt v w hd40 hV hK
    generalize mtree dt = r at *
    obtain ⟨la, hA, -, hal, hao⟩ := v8_list a ha
    obtain ⟨lb, hB, -, hbl, hbo⟩ := v8_list b hb
    obtain ⟨lc, hC, -, hcl, hco⟩ := v8_list c hc
    obtain ⟨lz, hZ, -, hzl, hzo⟩ := v8_list z hz
    obtain ⟨lr, hR, -, hrl, hrro⟩ := v8_list r hr
    have HA := Lib.hid hA; have HB := Lib.hid hB; have HC := Lib.hid hC; have HE := Lib.hid hZ; have HR := Lib.hid hR
    clear hA hB hC hZ hR
    go_wp2_with fail
    refine (ca _ Hk.out).mono ?_
    rintro e w1 ⟨rfl, hb1⟩
    go_wp2_with fail
    refine (cb _ (Hk.out.below hb1 (Nat.le_refl _))).mono ?_
    rintro e w2 ⟨rfl, hb2⟩
    have hB2 := hb1.trans (hb2.mono hb1.size)
    clear hb1 hb2
    rw [HA.out, HB.out]
    have h2 := Lib.hid (two_vars w2 24 la lb)
    have HI := Lib.hid (inf_size infD32 la hal); have HI2 := Lib.hid (inf_size infD32 lb hbl); have HI3 := Lib.hid (inf_size infD32 lr hrl)
    have HS := Lib.hid (st_size la hal); have HS2 := Lib.hid (st_size lb hbl); have HS3 := Lib.hid (st_size lr hrl)
    have HO := Lib.hid (all_oneCell_toArray hao); have HO2 := Lib.hid (all_oneCell_toArray hbo); have HO3 := Lib.hid (all_oneCell_toArray hrro)
    clear hao hbo hco hzo hrro
    have hu := Lib.hid Tryd.underlying24
    go_upto_region 3 with (first | ((with_reducible refine at_st 24 (.tmp 7) (.tmp 27) ?_); refine wpList_store_row rfl 24 (.tmp 7) (.tmp 27) rfl w2.heap.size la.toArray rfl rfl 24 _ h2.out.1 HI.out HS.out HO.out ?_) | ((with_reducible refine at_st 24 (.tmp 8) (.tmp 29) ?_); refine wpList_store_row rfl 24 (.tmp 8) (.tmp 29) rfl (w2.heap.size + 1) lb.toArray rfl rfl 24 _ h2.out.2.1 HI2.out HS2.out HO2.out ?_))
    have h3 := h2.out.2.2
    clear h2
    change Code.wp _ _ _ _ ((((w2.alloc (Z32 24)).alloc (Z32 24)).setRow w2.heap.size la.toArray).setRow (w2.heap.size + 1) lb.toArray)
    generalize (((w2.alloc (Z32 24)).alloc (Z32 24)).setRow w2.heap.size la.toArray).setRow (w2.heap.size + 1) lb.toArray = w3 at *
    have h4 := h3.1; have h5 := h3.2.1; have hB3 := hB2.trans (h3.2.2.1.mono hB2.size)
    clear h3 hB2
    generalize w2.heap.size = g1 at *
    go_wp2_with fail
    refine (hro _ (HV2.out.below hB3 (Nat.le_refl _))).mono ?_
    rintro e w4 ⟨⟨v4, rfl, hV4⟩, hb4⟩
    have hB4 := hB3.trans (hb4.mono hB3.size)
    have h44 := h4.below hb4 h4.lt
    have h54 := h5.below hb4 h5.lt
    clear h4 h5 hB3 hb4
    go_wp2_with fail
    refine (hrt _ _ hV4 (Hk.out.below hB4 (Nat.le_refl _))).mono ?_
    rintro e w5 ⟨rfl, hb5⟩
    rw [HR.out]
    have hB5 := hB4.trans (hb5.mono hB4.size)
    have h45 := h44.below hb5 h44.lt
    have h55 := h54.below hb5 h54.lt
    clear h44 h54 hB4 hb5 hV4
    have h6 := Lib.hid (one_var w5 24 lr)
    go_upto_region 4 with (first | ((with_reducible refine at_st 24 (.tmp 9) (.tmp 34) ?_); refine wpList_store_row rfl 24 (.tmp 9) (.tmp 34) rfl w5.heap.size lr.toArray rfl rfl 24 _ h6.out.1 HI3.out HS3.out HO3.out ?_))
    have h7 := h6.out.2
    clear h6
    change Code.wp _ _ _ _ ((w5.alloc (Z32 24)).setRow w5.heap.size lr.toArray)
    generalize (w5.alloc (Z32 24)).setRow w5.heap.size lr.toArray = w6 at *
    have h46 := h45.below h7.2.1 h45.lt
    have h56 := h55.below h7.2.1 h55.lt
    have h66 := h7.1
    have hB6 := hB5.trans (h7.2.1.mono hB5.size)
    generalize w5.heap.size = g3 at *
    clear h45 h55 h7 hB5
    have R1 := h46.range; have R2 := h56.range; have R3 := h66.range
    have hI := Lib.hid (show (Tryd.prog.info? 24).map (·.size) = some la.length by rw [hal]; exact infD32)
    have hI2 := Lib.hid (show (Tryd.prog.info? 24).map (·.size) = some lb.length by rw [hbl]; exact infD32)
    have hI3 := Lib.hid (show (Tryd.prog.info? 24).map (·.size) = some lr.length by rw [hrl]; exact infD32)
    have hlt1 : g1 < w6.heap.size := h46.lt
    have hlt2 : g1 + 1 < w6.heap.size := h56.lt
    have hlt3 : g3 < w6.heap.size := h66.lt
    have HDT := HV2
    clear hV2
    refine wp_region_class 33 [] [0, 1, 2, 3, 4, 5, 6, 7, 8, 9, 10, 11, 12, 13, 14, 15, 16, 17, 18, 19, 20, 21, 22, 23, 24, 25, 26, 27, 28, 29, 30, 31, 32] (Below w6.heap.size w6) (Stable.below w6) (Below.refl _ _).drew (by kernel_rfl) (by kernel_rfl) ?_
    simp only [opsOf, List.getElem?_cons_succ, List.getElem?_cons_zero, List.drop_succ_cons, List.drop_zero]
    refine wpL_val ?v129 rfl (by rfl) (fun wq hq => ?y129) ?z129
    case y129 => go_simp; exact known_any _ (Hk.out.below (hB6.trans (hq.mono hB6.size)) (Nat.le_refl _))
    try simp only [Act.put, List.setIfInBounds_toArray, List.set_cons_zero, List.set_cons_succ]
    refine wpL_val ?v130 rfl (by rfl) (fun wq hq => ?y130) ?z130
    case y130 => go_simp; with_reducible rfl
    try simp only [Act.put, List.setIfInBounds_toArray, List.set_cons_zero, List.set_cons_succ]
    refine wpL_val (.agg la.toArray) rfl (by rfl) (fun wq hq => quiet_ld 24 _ rfl _ _ rfl la _ (range_below R1 hq hlt1) hu.out rfl hI.out) ?_
    try simp only [Act.put, List.setIfInBounds_toArray, List.set_cons_zero, List.set_cons_succ]
    refine wpL_val ?v132 rfl (by rfl) (fun wq hq => ?y132) ?z132
    case y132 => go_simp; with_reducible rfl
    try simp only [Act.put, List.setIfInBounds_toArray, List.set_cons_zero, List.set_cons_succ]
    refine wpL_val ?v133 rfl (by rfl) (fun wq hq => ?y133) ?z133
    case y133 => go_simp; exact ra _
    try simp only [Act.put, List.setIfInBounds_toArray, List.set_cons_zero, List.set_cons_succ]
    refine wpL_val ?v134 rfl (by rfl) (fun wq hq => ?y134) ?z134
    case y134 => (try rw [HA.out]); go_simp; rw [eqlR a a ha ha _ _ HA.out HA.out, decide_eq_true rfl]; go_simp; with_reducible rfl
    try simp only [Act.put, List.setIfInBounds_toArray, List.set_cons_zero, List.set_cons_succ]
    refine wpL_val ?v135 rfl (by rfl) (fun wq hq => ?y135) ?z135
    case y135 => go_simp; with_reducible rfl
    try simp only [Act.put, List.setIfInBounds_toArray, List.set_cons_zero, List.set_cons_succ]
    refine wpL_val ?v136 rfl (by rfl) (fun wq hq => ?y136) ?z136
    case y136 => go_simp; with_reducible rfl
    try simp only [Act.put, List.setIfInBounds_toArray, List.set_cons_zero, List.set_cons_succ]
    refine wpL_val (.agg la.toArray) rfl (by rfl) (fun wq hq => quiet_ld 24 _ rfl _ _ rfl la _ (range_below R1 hq hlt1) hu.out rfl hI.out) ?_
    try simp only [Act.put, List.setIfInBounds_toArray, List.set_cons_zero, List.set_cons_succ]
    refine wpL_val (.agg lb.toArray) rfl (by rfl) (fun wq hq => quiet_ld 24 _ rfl _ _ rfl lb _ (range_below R2 hq hlt2) hu.out rfl hI2.out) ?_
    try simp only [Act.put, List.setIfInBounds_toArray, List.set_cons_zero, List.set_cons_succ]
    refine wpL_val ?v139 rfl (by rfl) (fun wq hq => ?y139) ?z139
    case y139 => go_simp; exact cn _ _ HA.out HB.out _ (Hk.out.below (hB6.trans (hq.mono hB6.size)) (Nat.le_refl _))
    try simp only [Act.put, List.setIfInBounds_toArray, List.set_cons_zero, List.set_cons_succ]
    refine wpL_val ?v140 rfl (by rfl) (fun wq hq => ?y140) ?z140
    case y140 => go_simp; with_reducible rfl
    try simp only [Act.put, List.setIfInBounds_toArray, List.set_cons_zero, List.set_cons_succ]
    refine wpL_val ?v141 rfl (by rfl) (fun wq hq => ?y141) ?z141
    case y141 => go_simp; exact ra _
    try simp only [Act.put, List.setIfInBounds_toArray, List.set_cons_zero, List.set_cons_succ]
    refine wpL_val ?v142 rfl (by rfl) (fun wq hq => ?y142) ?z142
    case y142 => go_simp; with_reducible rfl
    try simp only [Act.put, List.setIfInBounds_toArray, List.set_cons_zero, List.set_cons_succ]
    refine wpL_val ?v143 rfl (by rfl) (fun wq hq => ?y143) ?z143
    case y143 => go_simp; exact rb _
    try simp only [Act.put, List.setIfInBounds_toArray, List.set_cons_zero, List.set_cons_succ]
    refine wpL_val ?v144 rfl (by rfl) (fun wq hq => ?y144) ?z144
    case y144 => go_simp; exact rn _ _ rfl rfl _
    try simp only [Act.put, List.setIfInBounds_toArray, List.set_cons_zero, List.set_cons_succ]
    refine wpL_val ?v145 rfl (by rfl) (fun wq hq => ?y145) ?z145
    case y145 => (try rw [HC.out]); go_simp; rw [eqlR c c hc hc _ _ HC.out HC.out, decide_eq_true rfl]; go_simp; with_reducible rfl
    try simp only [Act.put, List.setIfInBounds_toArray, List.set_cons_zero, List.set_cons_succ]
    refine wpL_val ?v146 rfl (by rfl) (fun wq hq => ?y146) ?z146
    case y146 => go_simp; with_reducible rfl
    try simp only [Act.put, List.setIfInBounds_toArray, List.set_cons_zero, List.set_cons_succ]
    refine wpL_val ?v147 rfl (by rfl) (fun wq hq => ?y147) ?z147
    case y147 => go_simp; with_reducible rfl
    try simp only [Act.put, List.setIfInBounds_toArray, List.set_cons_zero, List.set_cons_succ]
    refine wpL_val ?v148 rfl (by rfl) (fun wq hq => ?y148) ?z148
    case y148 => go_simp; exact ze _ (Hk.out.below (hB6.trans (hq.mono hB6.size)) (Nat.le_refl _))
    try simp only [Act.put, List.setIfInBounds_toArray, List.set_cons_zero, List.set_cons_succ]
    refine wpL_val ?v149 rfl (by rfl) (fun wq hq => ?y149) ?z149
    case y149 => go_simp; exact zr _
    try simp only [Act.put, List.setIfInBounds_toArray, List.set_cons_zero, List.set_cons_succ]
    refine wpL_val ?v150 rfl (by rfl) (fun wq hq => ?y150) ?z150
    case y150 => (try rw [HE.out]); go_simp; rw [eqlR z z hz hz _ _ HE.out HE.out, decide_eq_true rfl]; go_simp; with_reducible rfl
    try simp only [Act.put, List.setIfInBounds_toArray, List.set_cons_zero, List.set_cons_succ]
    refine wpL_val ?v151 rfl (by rfl) (fun wq hq => ?y151) ?z151
    case y151 => go_simp; with_reducible rfl
    try simp only [Act.put, List.setIfInBounds_toArray, List.set_cons_zero, List.set_cons_succ]
    refine wpL_val ?v152 rfl (by rfl) (fun wq hq => ?y152) ?z152
    case y152 => go_simp; with_reducible rfl
    try simp only [Act.put, List.setIfInBounds_toArray, List.set_cons_zero, List.set_cons_succ]
    refine wpL_val ?v153 rfl (by rfl) (fun wq hq => ?y153) ?z153
    case y153 => go_simp; with_reducible rfl
    try simp only [Act.put, List.setIfInBounds_toArray, List.set_cons_zero, List.set_cons_succ]
    refine wpL_val ?v154 rfl (by rfl) (fun wq hq => ?y154) ?z154
    case y154 => go_simp; with_reducible rfl
    try simp only [Act.put, List.setIfInBounds_toArray, List.set_cons_zero, List.set_cons_succ]
    refine wpL_val ?v155 rfl (by rfl) (fun wq hq => ?y155) ?z155
    case y155 => go_simp; with_reducible rfl
    try simp only [Act.put, List.setIfInBounds_toArray, List.set_cons_zero, List.set_cons_succ]
    refine wpL_val ?v156 rfl (by rfl) (fun wq hq => ?y156) ?z156
    case y156 => go_simp; with_reducible rfl
    try simp only [Act.put, List.setIfInBounds_toArray, List.set_cons_zero, List.set_cons_succ]
    refine wpL_val (.agg lr.toArray) rfl (by rfl) (fun wq hq => quiet_ld 24 _ rfl _ _ rfl lr _ (range_below R3 hq hlt3) hu.out rfl hI3.out) ?_
    try simp only [Act.put, List.setIfInBounds_toArray, List.set_cons_zero, List.set_cons_succ]
    refine wpL_val ?v158 rfl (by rfl) (fun wq hq => ?y158) ?z158
    case y158 => go_simp; with_reducible rfl
    try simp only [Act.put, List.setIfInBounds_toArray, List.set_cons_zero, List.set_cons_succ]
    refine wpL_val ?v159 rfl (by rfl) (fun wq hq => ?y159) ?z159
    case y159 => go_simp; exact rr _ (HDT.out.below (hB6.trans (hq.mono hB6.size)) (Nat.le_refl _))
    try simp only [Act.put, List.setIfInBounds_toArray, List.set_cons_zero, List.set_cons_succ]
    refine wpL_val ?v160 rfl (by rfl) (fun wq hq => ?y160) ?z160
    case y160 => (try rw [HR.out]); go_simp; rw [eqlR r r hr hr _ _ HR.out HR.out, decide_eq_true rfl]; go_simp; with_reducible rfl
    try simp only [Act.put, List.setIfInBounds_toArray, List.set_cons_zero, List.set_cons_succ]
    refine wpL_val ?v161 rfl (by rfl) (fun wq hq => ?y161) ?z161
    case y161 => go_simp; with_reducible rfl
    try simp only [Act.put, List.setIfInBounds_toArray, List.set_cons_zero, List.set_cons_succ]
    refine wpL_nil ?_
    intro wt hwt
    go_wp2_with fail
    go_ret
    exact ⟨rfl, hB0.trans ((hB6.trans (hwt.mono hB6.size)).mono hB0.size)⟩
end Go.Proofs.YteehpfccegnjjaaDoor
