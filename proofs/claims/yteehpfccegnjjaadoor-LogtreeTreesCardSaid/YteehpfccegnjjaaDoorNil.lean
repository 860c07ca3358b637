/-
  The methods of a nil tree, and the walk of the law LogtreeNil.
-/
import Derived.Test.YteehpfccegnjjaaDoorPlain
namespace Go.Proofs.YteehpfccegnjjaaDoor
open Go Go.RowKit
def zd : List UInt8 := List.replicate 32 0
theorem zd_len : zd.length = 32 := rfl
theorem zd_row : (zd.map V8).toArray = (List.replicate 32 (V8 0)).toArray := rfl
theorem dv_zd : Dv zd = .agg (List.replicate 32 (V8 0)).toArray := rfl
theorem infZ : (Tryd.prog.info? 24).map (·.size) = some (List.replicate 32 (V8 0)).toArray.size := by kernel_rfl
theorem oneZ : (List.replicate 32 (V8 0)).toArray.all (·.oneCell') = true := by rw [← zd_row]; exact v8_one _

set_option maxRecDepth 100000 in
set_option maxHeartbeats 400000 in
theorem leaf_nil (i : Int) (w : World) :
    Calls Tryd.prog 33 #[.pointer none, .int .i64 i] w fun e w' => e = .returned (.tuple #[Dv zd, .int .i64 1]) ∧ Below w.heap.size w w' := by
  have hA := Arr.new w 24 (List.replicate 32 (V8 0))
  have hB : Below w.heap.size w (w.alloc (.cells (List.replicate 32 (V8 0)).toArray 24)) := (Below.refl _ _).alloc (Nat.le_refl _) _
  have HAA := Lib.hid hA; have HB := Lib.hid hB
  clear hA hB
  go_enter Tryd.func33, Tryd.ntmps33
  go_wp2_with ((with_reducible refine at_st 24 (.tmp 4) (.tmp 8) ?_); refine wpList_store_row rfl 24 (.tmp 4) (.tmp 8) rfl w.heap.size (List.replicate 32 (V8 0)).toArray rfl rfl 24 (List.replicate 32 (V8 0)).toArray HAA.out infZ rfl oneZ ?_)
  exact bodyPost_ret (v := .tuple #[Dv zd, .int .i64 1]) (results_row_tmp rfl _ _ w.heap.size 24 _ _ _ _ rfl rfl (setRow_heap _ _ _ _ _ _ HAA.out) Tryd.underlying24 rfl infZ) rfl ⟨rfl, below_setRow HB.out (Nat.le_refl _) _⟩
set_option maxRecDepth 100000 in
set_option maxHeartbeats 400000 in
theorem root_nil (i : Int) (w : World) :
    Calls Tryd.prog 34 #[.pointer none, .int .i64 i] w fun e w' => e = .returned (.tuple #[Dv zd, .int .i64 1]) ∧ Below w.heap.size w w' := by
  have hA := Arr.new w 24 (List.replicate 32 (V8 0))
  have hB : Below w.heap.size w (w.alloc (.cells (List.replicate 32 (V8 0)).toArray 24)) := (Below.refl _ _).alloc (Nat.le_refl _) _
  have HAA := Lib.hid hA; have HB := Lib.hid hB
  clear hA hB
  go_enter Tryd.func34, Tryd.ntmps34
  go_wp2_with ((with_reducible refine at_st 24 (.tmp 4) (.tmp 8) ?_); refine wpList_store_row rfl 24 (.tmp 4) (.tmp 8) rfl w.heap.size (List.replicate 32 (V8 0)).toArray rfl rfl 24 (List.replicate 32 (V8 0)).toArray HAA.out infZ rfl oneZ ?_)
  exact bodyPost_ret (v := .tuple #[Dv zd, .int .i64 1]) (results_row_tmp rfl _ _ w.heap.size 24 _ _ _ _ rfl rfl (setRow_heap _ _ _ _ _ _ HAA.out) Tryd.underlying24 rfl infZ) rfl ⟨rfl, below_setRow HB.out (Nat.le_refl _) _⟩
theorem include_nil (i j : Int) (w : World) :
    Calls Tryd.prog 30 #[.pointer none, .int .i64 i, .int .i64 j] w fun e w' => e = .returned (.tuple #[.slice none 0 0, .int .i64 1]) ∧ w = w' := by
  go_enter Tryd.func30, Tryd.ntmps30
  go_wp2
  go_ret2
  exact ⟨rfl, rfl⟩
theorem extend_nil (i j : Int) (w : World) :
    Calls Tryd.prog 31 #[.pointer none, .int .i64 i, .int .i64 j] w fun e w' => e = .returned (.tuple #[.slice none 0 0, .int .i64 1]) ∧ w = w' := by
  go_enter Tryd.func31, Tryd.ntmps31
  go_wp2
  go_ret2
  exact ⟨rfl, rfl⟩
theorem append_nil (la : List Value) (w : World) :
    Calls Tryd.prog 39 #[.pointer none, .agg la.toArray] w fun e w' => e = .returned (.int .i64 1) ∧ Below w.heap.size w w' := by
  go_enter Tryd.func39, Tryd.ntmps39
  go_wp2
  go_ret
  exact ⟨rfl, below_alloc _ _⟩
theorem len_nil (w : World) :
    Calls Tryd.prog 42 #[.pointer none] w fun e w' => e = .returned (.int .i64 0) ∧ w = w' := by
  go_enter Tryd.func42, Tryd.ntmps42
  go_wp2
  go_ret
  exact ⟨rfl, rfl⟩
theorem trunc_nil (i : Int) (w : World) :
    Calls Tryd.prog 40 #[.pointer none, .int .i64 i] w fun e w' => e = .returned (.int .i64 1) ∧ w = w' := by
  go_enter Tryd.func40, Tryd.ntmps40
  go_wp2
  go_ret
  exact ⟨rfl, rfl⟩
theorem clone_nil (w : World) :
    Calls Tryd.prog 38 #[.pointer none] w fun e w' => e = .returned (.pointer none) ∧ w = w' := by
  go_enter Tryd.func38, Tryd.ntmps38
  go_wp2
  go_ret
  exact ⟨rfl, rfl⟩
theorem equal_nils (w : World) :
    Calls Tryd.prog 41 #[.pointer none, .pointer none] w fun e w' => e = .returned (.bool true) ∧ w = w' := by
  go_enter Tryd.func41, Tryd.ntmps41
  go_wp2
  go_ret
  exact ⟨rfl, rfl⟩
theorem equal_nil1 (a : Addr) (w : World) :
    Calls Tryd.prog 41 #[.pointer none, .pointer (some a)] w fun e w' => e = .returned (.bool false) ∧ w = w' := by
  go_enter Tryd.func41, Tryd.ntmps41
  go_wp2
  go_ret
  exact ⟨rfl, rfl⟩
theorem equal_nil2 (a : Addr) (w : World) :
    Calls Tryd.prog 41 #[.pointer (some a), .pointer none] w fun e w' => e = .returned (.bool false) ∧ w = w' := by
  go_enter Tryd.func41, Tryd.ntmps41
  go_wp2
  go_ret
  exact ⟨rfl, rfl⟩
set_option linter.unusedSimpArgs false in
set_option maxRecDepth 100000 in
set_option maxHeartbeats 1000000 in
theorem nil_law (d : List UInt8) (hd : d.length = 32) (i j : Int) (w : World) (hK : KT w) :
    Calls Tryd.prog 11 #[Dv d, .int .i64 i, .int .i64 j] w fun e w' => e = .returned (.bool true) ∧ Below w.heap.size w w' := by
  have Hk := Lib.hid hK; clear hK
  obtain ⟨ld, hla, -, hdl, -⟩ := v8_list d hd
  rw [hla]
  clear hla
  have hle := fun w => leaf_nil i w
  have hro := fun w => root_nil i w
  have hq : ∀ w, (Op.equalIn 10000 24 (Dv zd) (.agg #[.int .u8 0, .int .u8 0, .int .u8 0, .int .u8 0, .int .u8 0, .int .u8 0, .int .u8 0, .int .u8 0, .int .u8 0, .int .u8 0, .int .u8 0, .int .u8 0, .int .u8 0, .int .u8 0, .int .u8 0, .int .u8 0, .int .u8 0, .int .u8 0, .int .u8 0, .int .u8 0, .int .u8 0, .int .u8 0, .int .u8 0, .int .u8 0, .int .u8 0, .int .u8 0, .int .u8 0, .int .u8 0, .int .u8 0, .int .u8 0, .int .u8 0, .int .u8 0])).run Tryd.prog w = .ok true w := fun w => eqlD zd zd zd_len zd_len _ _ rfl rfl w
  have hzl := zd_len
  generalize zd = z at *
  obtain ⟨lz, hZ, -, hzz, hzo⟩ := v8_list z hzl
  rw [hZ] at hq
  have HZ := Lib.hid hZ
  have HI := Lib.hid (inf_size infD32 lz hzz)
  have HS := Lib.hid (st_size lz hzz)
  have HO := Lib.hid (all_oneCell_toArray hzo)
  have hID := Lib.hid (show (Tryd.prog.info? 23).map (·.size) = some ld.length by rw [hdl]; exact infR32)
  have hI := Lib.hid (show (Tryd.prog.info? 24).map (·.size) = some lz.length by rw [hzz]; exact infD32)
  have hu := Lib.hid Tryd.underlying24
  have huR := Lib.hid Tryd.underlying23
  clear hZ hzo hzz hdl hd hzl
  go_enter Tryd.func11, Tryd.ntmps11
  go_upto_region 2 with (fail)
  have hB0 : Below w.heap.size w (w.alloc (.cells ld.toArray 23)) := below_alloc _ _
  have hA0 : Arr (w.alloc (.cells ld.toArray 23)) w.heap.size 23 ld := Arr.new _ _ _
  change Code.wp _ _ _ _ (w.alloc (.cells ld.toArray 23))
  generalize w.alloc (.cells ld.toArray 23) = w0 at *
  go_wp2_with fail
  refine (hle _).mono ?_
  rintro e w1 ⟨rfl, hb1⟩
  rw [HZ.out]
  have hA1 := hA0.below hb1 hA0.lt
  have hB1 := hB0.trans (hb1.mono hB0.size)
  clear hA0 hB0 hb1
  have h1 := Lib.hid (one_var w1 24 lz)
  go_upto_region 3 with ((with_reducible refine at_st 24 (.tmp 8) (.tmp 20) ?_); refine wpList_store_row rfl 24 (.tmp 8) (.tmp 20) rfl w1.heap.size lz.toArray rfl rfl 24 _ h1.out.1 HI.out HS.out HO.out ?_)
  have h2 := h1.out.2
  clear h1
  change Code.wp _ _ _ _ ((w1.alloc (Z32 24)).setRow w1.heap.size lz.toArray)
  generalize (w1.alloc (Z32 24)).setRow w1.heap.size lz.toArray = w2 at *
  have hA2 := hA1.below h2.2.1 hA1.lt
  have hL2 := h2.1
  have hB2 := hB1.trans (h2.2.1.mono hB1.size)
  generalize w1.heap.size = g1 at *
  clear hA1 hB1 h2
  go_wp2_with fail
  refine (hro _).mono ?_
  rintro e w3 ⟨rfl, hb3⟩
  rw [HZ.out]
  have hA3 := hA2.below hb3 hA2.lt
  have hL3 := hL2.below hb3 hL2.lt
  have hB3 := hB2.trans (hb3.mono hB2.size)
  clear hA2 hL2 hB2 hb3
  have h1 := Lib.hid (one_var w3 24 lz)
  go_upto_region 4 with ((with_reducible refine at_st 24 (.tmp 10) (.tmp 26) ?_); refine wpList_store_row rfl 24 (.tmp 10) (.tmp 26) rfl w3.heap.size lz.toArray rfl rfl 24 _ h1.out.1 HI.out HS.out HO.out ?_)
  have h2 := h1.out.2
  clear h1
  change Code.wp _ _ _ _ ((w3.alloc (Z32 24)).setRow w3.heap.size lz.toArray)
  generalize (w3.alloc (Z32 24)).setRow w3.heap.size lz.toArray = w4 at *
  have hA4 := hA3.below h2.2.1 hA3.lt
  have hL4 := hL3.below h2.2.1 hL3.lt
  have hM4 := h2.1
  have hB4 := hB3.trans (h2.2.1.mono hB3.size)
  generalize w3.heap.size = g2 at *
  clear hA3 hL3 hB3 h2
  generalize hg0 : w.heap.size = g0 at *
  have hsz := hB4.size
  rw [hg0] at hsz
  have R0 := hA4.range; have R1 := hL4.range; have R2 := hM4.range
  have hlt0 : g0 < w4.heap.size := hA4.lt
  have hlt1 : g1 < w4.heap.size := hL4.lt
  have hlt2 : g2 < w4.heap.size := hM4.lt
  have hq2 := hq
  clear hq hA4 hL4 hM4
  go_upto_region 6 with (first | (go_at_call 30; refine (include_nil i j _).mono ?_; rintro e w5 ⟨rfl, rfl⟩) | (go_at_call 31; refine (extend_nil i j _).mono ?_; rintro e w5 ⟨rfl, rfl⟩))
  refine wp_region_listed 73 [63, 68] (Below w4.heap.size w4) (by decide) (Stable.below w4) (Below.refl _ _) ?_
  simp only [List.range, List.range.loop, opsOf, List.getElem?_cons_succ, List.getElem?_cons_zero, List.drop_succ_cons, List.drop_zero]
  refine wpL_val ?v2 rfl (by rfl) (fun wq hq => ?y2) ?z2
  case y2 => go_simp; exact known_any _ (Hk.out.below (hB4.trans (hq.mono hsz)) (Nat.le_of_eq hg0))
  try simp only [Act.put, List.setIfInBounds_toArray, List.set_cons_zero, List.set_cons_succ]
  refine wpL_val ?v3 rfl (by rfl) (fun wq hq => ?y3) ?z3
  case y3 => go_simp; with_reducible rfl
  try simp only [Act.put, List.setIfInBounds_toArray, List.set_cons_zero, List.set_cons_succ]
  refine wpL_val ?v4 rfl (by rfl) (fun wq hq => ?y4) ?z4
  case y4 => go_simp; with_reducible rfl
  try simp only [Act.put, List.setIfInBounds_toArray, List.set_cons_zero, List.set_cons_succ]
  refine wpL_val (.agg ld.toArray) rfl (by rfl) (fun wq hq => quiet_ld 23 _ rfl _ _ rfl ld _ (range_below R0 hq hlt0) huR.out rfl hID.out) ?_
  try simp only [Act.put, List.setIfInBounds_toArray, List.set_cons_zero, List.set_cons_succ]
  refine wpL_val ?v6 rfl (by rfl) (fun wq hq => ?y6) ?z6
  case y6 => go_simp; exact append_nil ld _
  try simp only [Act.put, List.setIfInBounds_toArray, List.set_cons_zero, List.set_cons_succ]
  refine wpL_val ?v7 rfl (by rfl) (fun wq hq => ?y7) ?z7
  case y7 => go_simp; with_reducible rfl
  try simp only [Act.put, List.setIfInBounds_toArray, List.set_cons_zero, List.set_cons_succ]
  refine wpL_val ?v8 rfl (by rfl) (fun wq hq => ?y8) ?z8
  case y8 => go_simp; with_reducible rfl
  try simp only [Act.put, List.setIfInBounds_toArray, List.set_cons_zero, List.set_cons_succ]
  refine wpL_val ?v9 rfl (by rfl) (fun wq hq => ?y9) ?z9
  case y9 => go_simp; with_reducible rfl
  try simp only [Act.put, List.setIfInBounds_toArray, List.set_cons_zero, List.set_cons_succ]
  refine wpL_val ?v10 rfl (by rfl) (fun wq hq => ?y10) ?z10
  case y10 => go_simp; with_reducible rfl
  try simp only [Act.put, List.setIfInBounds_toArray, List.set_cons_zero, List.set_cons_succ]
  refine wpL_val ?v11 rfl (by rfl) (fun wq hq => ?y11) ?z11
  case y11 => go_simp; have hh := calls_same (len_nil wq); exact hh
  try simp only [Act.put, List.setIfInBounds_toArray, List.set_cons_zero, List.set_cons_succ]
  refine wpL_val ?v12 rfl (by rfl) (fun wq hq => ?y12) ?z12
  case y12 => go_simp; with_reducible rfl
  try simp only [Act.put, List.setIfInBounds_toArray, List.set_cons_zero, List.set_cons_succ]
  refine wpL_val ?v13 rfl (by rfl) (fun wq hq => ?y13) ?z13
  case y13 => go_simp; with_reducible rfl
  try simp only [Act.put, List.setIfInBounds_toArray, List.set_cons_zero, List.set_cons_succ]
  refine wpL_val ?v14 rfl (by rfl) (fun wq hq => ?y14) ?z14
  case y14 => go_simp; with_reducible rfl
  try simp only [Act.put, List.setIfInBounds_toArray, List.set_cons_zero, List.set_cons_succ]
  refine wpL_val (.agg lz.toArray) rfl (by rfl) (fun wq hq => quiet_ld 24 _ rfl _ _ rfl lz _ (range_below R1 hq hlt1) hu.out rfl hI.out) ?_
  try simp only [Act.put, List.setIfInBounds_toArray, List.set_cons_zero, List.set_cons_succ]
  refine wpL_val ?v16 rfl (by rfl) (fun wq hq => ?y16) ?z16
  case y16 => go_simp; with_reducible rfl
  try simp only [Act.put, List.setIfInBounds_toArray, List.set_cons_zero, List.set_cons_succ]
  refine wpL_val ?v17 rfl (by rfl) (fun wq hq => ?y17) ?z17
  case y17 => go_simp; with_reducible rfl
  try simp only [Act.put, List.setIfInBounds_toArray, List.set_cons_zero, List.set_cons_succ]
  refine wpL_val ?v18 rfl (by rfl) (fun wq hq => ?y18) ?z18
  case y18 => go_simp; with_reducible rfl
  try simp only [Act.put, List.setIfInBounds_toArray, List.set_cons_zero, List.set_cons_succ]
  refine wpL_val ?v19 rfl (by rfl) (fun wq hq => ?y19) ?z19
  case y19 => go_simp; with_reducible rfl
  try simp only [Act.put, List.setIfInBounds_toArray, List.set_cons_zero, List.set_cons_succ]
  refine wpL_val ?v20 rfl (by rfl) (fun wq hq => ?y20) ?z20
  case y20 => go_simp; with_reducible rfl
  try simp only [Act.put, List.setIfInBounds_toArray, List.set_cons_zero, List.set_cons_succ]
  refine wpL_val ?v21 rfl (by rfl) (fun wq hq => ?y21) ?z21
  case y21 => go_simp; with_reducible rfl
  try simp only [Act.put, List.setIfInBounds_toArray, List.set_cons_zero, List.set_cons_succ]
  refine wpL_val ?v22 rfl (by rfl) (fun wq hq => ?y22) ?z22
  case y22 => go_simp; with_reducible rfl
  try simp only [Act.put, List.setIfInBounds_toArray, List.set_cons_zero, List.set_cons_succ]
  refine wpL_val ?v23 rfl (by rfl) (fun wq hq => ?y23) ?z23
  case y23 => go_simp; with_reducible rfl
  try simp only [Act.put, List.setIfInBounds_toArray, List.set_cons_zero, List.set_cons_succ]
  refine wpL_val (.agg lz.toArray) rfl (by rfl) (fun wq hq => quiet_ld 24 _ rfl _ _ rfl lz _ (range_below R2 hq hlt2) hu.out rfl hI.out) ?_
  try simp only [Act.put, List.setIfInBounds_toArray, List.set_cons_zero, List.set_cons_succ]
  refine wpL_val ?v25 rfl (by rfl) (fun wq hq => ?y25) ?z25
  case y25 => go_simp; with_reducible rfl
  try simp only [Act.put, List.setIfInBounds_toArray, List.set_cons_zero, List.set_cons_succ]
  refine wpL_val ?v26 rfl (by rfl) (fun wq hq => ?y26) ?z26
  case y26 => go_simp; with_reducible rfl
  try simp only [Act.put, List.setIfInBounds_toArray, List.set_cons_zero, List.set_cons_succ]
  refine wpL_val ?v27 rfl (by rfl) (fun wq hq => ?y27) ?z27
  case y27 => go_simp; with_reducible rfl
  try simp only [Act.put, List.setIfInBounds_toArray, List.set_cons_zero, List.set_cons_succ]
  refine wpL_val ?v28 rfl (by rfl) (fun wq hq => ?y28) ?z28
  case y28 => go_simp; with_reducible rfl
  try simp only [Act.put, List.setIfInBounds_toArray, List.set_cons_zero, List.set_cons_succ]
  refine wpL_val ?v29 rfl (by rfl) (fun wq hq => ?y29) ?z29
  case y29 => go_simp; with_reducible rfl
  try simp only [Act.put, List.setIfInBounds_toArray, List.set_cons_zero, List.set_cons_succ]
  refine wpL_val ?v30 rfl (by rfl) (fun wq hq => ?y30) ?z30
  case y30 => go_simp; with_reducible rfl
  try simp only [Act.put, List.setIfInBounds_toArray, List.set_cons_zero, List.set_cons_succ]
  refine wpL_val ?v31 rfl (by rfl) (fun wq hq => ?y31) ?z31
  case y31 => go_simp; with_reducible rfl
  try simp only [Act.put, List.setIfInBounds_toArray, List.set_cons_zero, List.set_cons_succ]
  refine wpL_val ?v32 rfl (by rfl) (fun wq hq => ?y32) ?z32
  case y32 => go_simp; with_reducible rfl
  try simp only [Act.put, List.setIfInBounds_toArray, List.set_cons_zero, List.set_cons_succ]
  refine wpL_val ?v33 rfl (by rfl) (fun wq hq => ?y33) ?z33
  case y33 => go_simp; with_reducible rfl
  try simp only [Act.put, List.setIfInBounds_toArray, List.set_cons_zero, List.set_cons_succ]
  refine wpL_val ?v34 rfl (by rfl) (fun wq hq => ?y34) ?z34
  case y34 => go_simp; with_reducible rfl
  try simp only [Act.put, List.setIfInBounds_toArray, List.set_cons_zero, List.set_cons_succ]
  refine wpL_val ?v35 rfl (by rfl) (fun wq hq => ?y35) ?z35
  case y35 => go_simp; with_reducible rfl
  try simp only [Act.put, List.setIfInBounds_toArray, List.set_cons_zero, List.set_cons_succ]
  refine wpL_val ?v36 rfl (by rfl) (fun wq hq => ?y36) ?z36
  case y36 => go_simp; with_reducible rfl
  try simp only [Act.put, List.setIfInBounds_toArray, List.set_cons_zero, List.set_cons_succ]
  refine wpL_val ?v37 rfl (by rfl) (fun wq hq => ?y37) ?z37
  case y37 => go_simp; with_reducible rfl
  try simp only [Act.put, List.setIfInBounds_toArray, List.set_cons_zero, List.set_cons_succ]
  refine wpL_val ?v38 rfl (by rfl) (fun wq hq => ?y38) ?z38
  case y38 => go_simp; with_reducible rfl
  try simp only [Act.put, List.setIfInBounds_toArray, List.set_cons_zero, List.set_cons_succ]
  refine wpL_val ?v39 rfl (by rfl) (fun wq hq => ?y39) ?z39
  case y39 => go_simp; with_reducible rfl
  try simp only [Act.put, List.setIfInBounds_toArray, List.set_cons_zero, List.set_cons_succ]
  refine wpL_val ?v40 rfl (by rfl) (fun wq hq => ?y40) ?z40
  case y40 => go_simp; with_reducible rfl
  try simp only [Act.put, List.setIfInBounds_toArray, List.set_cons_zero, List.set_cons_succ]
  refine wpL_val ?v41 rfl (by rfl) (fun wq hq => ?y41) ?z41
  case y41 => go_simp; with_reducible rfl
  try simp only [Act.put, List.setIfInBounds_toArray, List.set_cons_zero, List.set_cons_succ]
  refine wpL_val ?v42 rfl (by rfl) (fun wq hq => ?y42) ?z42
  case y42 => go_simp; with_reducible rfl
  try simp only [Act.put, List.setIfInBounds_toArray, List.set_cons_zero, List.set_cons_succ]
  refine wpL_val ?v43 rfl (by rfl) (fun wq hq => ?y43) ?z43
  case y43 => go_simp; with_reducible rfl
  try simp only [Act.put, List.setIfInBounds_toArray, List.set_cons_zero, List.set_cons_succ]
  refine wpL_val ?v44 rfl (by rfl) (fun wq hq => ?y44) ?z44
  case y44 => go_simp; with_reducible rfl
  try simp only [Act.put, List.setIfInBounds_toArray, List.set_cons_zero, List.set_cons_succ]
  refine wpL_val ?v45 rfl (by rfl) (fun wq hq => ?y45) ?z45
  case y45 => go_simp; with_reducible rfl
  try simp only [Act.put, List.setIfInBounds_toArray, List.set_cons_zero, List.set_cons_succ]
  refine wpL_val ?v46 rfl (by rfl) (fun wq hq => ?y46) ?z46
  case y46 => go_simp; with_reducible rfl
  try simp only [Act.put, List.setIfInBounds_toArray, List.set_cons_zero, List.set_cons_succ]
  refine wpL_val ?v47 rfl (by rfl) (fun wq hq => ?y47) ?z47
  case y47 => go_simp; with_reducible rfl
  try simp only [Act.put, List.setIfInBounds_toArray, List.set_cons_zero, List.set_cons_succ]
  refine wpL_val ?v48 rfl (by rfl) (fun wq hq => ?y48) ?z48
  case y48 => go_simp; with_reducible rfl
  try simp only [Act.put, List.setIfInBounds_toArray, List.set_cons_zero, List.set_cons_succ]
  refine wpL_val ?v49 rfl (by rfl) (fun wq hq => ?y49) ?z49
  case y49 => go_simp; with_reducible rfl
  try simp only [Act.put, List.setIfInBounds_toArray, List.set_cons_zero, List.set_cons_succ]
  refine wpL_val ?v50 rfl (by rfl) (fun wq hq => ?y50) ?z50
  case y50 => go_simp; with_reducible rfl
  try simp only [Act.put, List.setIfInBounds_toArray, List.set_cons_zero, List.set_cons_succ]
  refine wpL_val ?v51 rfl (by rfl) (fun wq hq => ?y51) ?z51
  case y51 => go_simp; have hh := calls_same (trunc_nil i wq); exact hh
  try simp only [Act.put, List.setIfInBounds_toArray, List.set_cons_zero, List.set_cons_succ]
  refine wpL_val ?v52 rfl (by rfl) (fun wq hq => ?y52) ?z52
  case y52 => go_simp; with_reducible rfl
  try simp only [Act.put, List.setIfInBounds_toArray, List.set_cons_zero, List.set_cons_succ]
  refine wpL_val ?v53 rfl (by rfl) (fun wq hq => ?y53) ?z53
  case y53 => go_simp; with_reducible rfl
  try simp only [Act.put, List.setIfInBounds_toArray, List.set_cons_zero, List.set_cons_succ]
  refine wpL_val ?v54 rfl (by rfl) (fun wq hq => ?y54) ?z54
  case y54 => go_simp; with_reducible rfl
  try simp only [Act.put, List.setIfInBounds_toArray, List.set_cons_zero, List.set_cons_succ]
  refine wpL_val ?v55 rfl (by rfl) (fun wq hq => ?y55) ?z55
  case y55 => go_simp; with_reducible rfl
  try simp only [Act.put, List.setIfInBounds_toArray, List.set_cons_zero, List.set_cons_succ]
  refine wpL_val ?v56 rfl (by rfl) (fun wq hq => ?y56) ?z56
  case y56 => go_simp; have hh := calls_same (clone_nil wq); exact hh
  try simp only [Act.put, List.setIfInBounds_toArray, List.set_cons_zero, List.set_cons_succ]
  refine wpL_val ?v57 rfl (by rfl) (fun wq hq => ?y57) ?z57
  case y57 => go_simp; with_reducible rfl
  try simp only [Act.put, List.setIfInBounds_toArray, List.set_cons_zero, List.set_cons_succ]
  refine wpL_val ?v58 rfl (by rfl) (fun wq hq => ?y58) ?z58
  case y58 => go_simp; with_reducible rfl
  try simp only [Act.put, List.setIfInBounds_toArray, List.set_cons_zero, List.set_cons_succ]
  refine wpL_val ?v59 rfl (by rfl) (fun wq hq => ?y59) ?z59
  case y59 => go_simp; with_reducible rfl
  try simp only [Act.put, List.setIfInBounds_toArray, List.set_cons_zero, List.set_cons_succ]
  refine wpL_val ?v60 rfl (by rfl) (fun wq hq => ?y60) ?z60
  case y60 => go_simp; with_reducible rfl
  try simp only [Act.put, List.setIfInBounds_toArray, List.set_cons_zero, List.set_cons_succ]
  refine wpL_val ?v61 rfl (by rfl) (fun wq hq => ?y61) ?z61
  case y61 => go_simp; have hh := calls_same (equal_nils wq); exact hh
  try simp only [Act.put, List.setIfInBounds_toArray, List.set_cons_zero, List.set_cons_succ]
  refine wpL_val ?v62 rfl (by rfl) (fun wq hq => ?y62) ?z62
  case y62 => go_simp; with_reducible rfl
  try simp only [Act.put, List.setIfInBounds_toArray, List.set_cons_zero, List.set_cons_succ]
  refine wpL_val ?v63 rfl (by rfl) (fun wq hq => ?y63) ?z63
  case y63 => go_simp; with_reducible rfl
  try simp only [Act.put, List.setIfInBounds_toArray, List.set_cons_zero, List.set_cons_succ]
  refine wpL_val ?v64 rfl (by rfl) (fun wq hq => ?y64) ?z64
  case y64 => go_simp; with_reducible rfl
  try simp only [Act.put, List.setIfInBounds_toArray, List.set_cons_zero, List.set_cons_succ]
  refine wpL_some (X := Nat) (fun g => .pointer (some ⟨g, 0, none⟩)) rfl (by rfl) (Stable.below w4) (fun _ h => h) (fun wq hq => ?yn1) (fun gn1 => ?_)
  case yn1 =>
    unfold genAt
    go_simp
    simp only [genUpon]
    exact (new_any wq).mono fun e w' ⟨⟨mv, h1, _⟩, h2⟩ => ⟨_, h1, ⟨_, rfl⟩, h2⟩
  try simp only [Act.put, List.setIfInBounds_toArray, List.set_cons_zero, List.set_cons_succ]
  refine wpL_val ?v65 rfl (by rfl) (fun wq hq => ?y65) ?z65
  case y65 => go_simp; have hh := calls_same (equal_nil1 ⟨gn1, 0, none⟩ wq); exact hh
  try simp only [Act.put, List.setIfInBounds_toArray, List.set_cons_zero, List.set_cons_succ]
  refine wpL_val ?v66 rfl (by rfl) (fun wq hq => ?y66) ?z66
  case y66 => go_simp; with_reducible rfl
  try simp only [Act.put, List.setIfInBounds_toArray, List.set_cons_zero, List.set_cons_succ]
  refine wpL_val ?v67 rfl (by rfl) (fun wq hq => ?y67) ?z67
  case y67 => go_simp; with_reducible rfl
  try simp only [Act.put, List.setIfInBounds_toArray, List.set_cons_zero, List.set_cons_succ]
  refine wpL_val ?v68 rfl (by rfl) (fun wq hq => ?y68) ?z68
  case y68 => go_simp; with_reducible rfl
  try simp only [Act.put, List.setIfInBounds_toArray, List.set_cons_zero, List.set_cons_succ]
  refine wpL_some (X := Nat) (fun g => .pointer (some ⟨g, 0, none⟩)) rfl (by rfl) (Stable.below w4) (fun _ h => h) (fun wq hq => ?yn2) (fun gn2 => ?_)
  case yn2 =>
    unfold genAt
    go_simp
    simp only [genUpon]
    exact (new_any wq).mono fun e w' ⟨⟨mv, h1, _⟩, h2⟩ => ⟨_, h1, ⟨_, rfl⟩, h2⟩
  try simp only [Act.put, List.setIfInBounds_toArray, List.set_cons_zero, List.set_cons_succ]
  refine wpL_val ?v69 rfl (by rfl) (fun wq hq => ?y69) ?z69
  case y69 => go_simp; with_reducible rfl
  try simp only [Act.put, List.setIfInBounds_toArray, List.set_cons_zero, List.set_cons_succ]
  refine wpL_val ?v70 rfl (by rfl) (fun wq hq => ?y70) ?z70
  case y70 => go_simp; have hh := calls_same (equal_nil2 ⟨gn2, 0, none⟩ wq); exact hh
  try simp only [Act.put, List.setIfInBounds_toArray, List.set_cons_zero, List.set_cons_succ]
  refine wpL_val ?v71 rfl (by rfl) (fun wq hq => ?y71) ?z71
  case y71 => go_simp; with_reducible rfl
  try simp only [Act.put, List.setIfInBounds_toArray, List.set_cons_zero, List.set_cons_succ]
  refine wpL_val ?v72 rfl (by rfl) (fun wq hq => ?y72) ?z72
  case y72 => go_simp; with_reducible rfl
  try simp only [Act.put, List.setIfInBounds_toArray, List.set_cons_zero, List.set_cons_succ]
  refine wpL_nil ?_
  intro wt hwt
  go_wp2_with fail
  go_ret
  exact ⟨rfl, by rw [hg0]; exact hB4.trans (hwt.mono hsz)⟩
end Go.Proofs.YteehpfccegnjjaaDoor
