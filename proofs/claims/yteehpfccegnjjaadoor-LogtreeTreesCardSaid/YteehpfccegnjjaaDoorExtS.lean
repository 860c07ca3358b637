/-
  The contracts of logtree.Extends and of the reference's.
-/
import Derived.Test.YteehpfccegnjjaaDoorExtR
namespace Go.Proofs.YteehpfccegnjjaaDoor
open Go Go.RowKit
/-- What Extends answers. -/
def extS (old : List UInt8) (m n : Int) (path : List (List UInt8)) : List UInt8 × List UInt8 × Int :=
  if n < 0 ∨ 1048576 < n ∨ m < 0 ∨ n < m then (zd, zd, 2)
  else if m.toNat = 0 then (if path.length = 0 then (old, zd, 0) else (zd, zd, 35))
  else if path.length = pexl m.toNat n.toNat true then ((pext old m.toNat n.toNat true path).1, (pext old m.toNat n.toNat true path).2.1, 0) else (zd, zd, 35)
theorem extS_length (old : List UInt8) (ho : old.length = 32) (m n : Int) (path : List (List UInt8)) (hp : ∀ d ∈ path, d.length = 32) : (extS old m n path).1.length = 32 ∧ (extS old m n path).2.1.length = 32 := by
  unfold extS
  split
  · exact ⟨rfl, rfl⟩
  · split
    · split
      · exact ⟨ho, rfl⟩
      · exact ⟨rfl, rfl⟩
    · split
      · exact pext_length n.toNat old m.toNat n.toNat true path (Nat.le_refl _) ho hp
      · exact ⟨rfl, rfl⟩
theorem below_two2 {T : TypeId} {w0 wt : World} {g g2 : Nat} {x y : List Value} (f1 : Arr w0 g T x) (f2 : Arr w0 g2 T y)
    (h : ∃ wy, (∃ wx, Below w0.heap.size w0 wx ∧ Below (wx.setRow g x.toArray).heap.size (wx.setRow g x.toArray) wy) ∧ Below (wy.setRow g2 y.toArray).heap.size (wy.setRow g2 y.toArray) wt) : Below w0.heap.size w0 wt := by
  obtain ⟨wy, h1, h2⟩ := h
  exact below_two f2 ⟨wy, below_two f1 h1, h2⟩
set_option maxRecDepth 100000 in
set_option linter.unusedSimpArgs false in
set_option maxHeartbeats 1000000 in
theorem ext_any (old : List UInt8) (m n : Int) (path : List (List UInt8)) (v : Value) (w : World) (hlf : old.length = 32) (hlen : path.length ≤ 30) (hV : Digs w v path) (hK : KT w) :
    Calls Tryd.prog 24 #[Dv old, .int .i64 m, .int .i64 n, v] w fun e w' => e = .returned (.tuple #[Dv (extS old m n path).1, Dv (extS old m n path).2.1, .int .i64 (extS old m n path).2.2]) ∧ Below w.heap.size w w' := by
  obtain ⟨la, hA, -, hal, hao⟩ := v8_list old hlf
  obtain ⟨lz, hZ, hzm, hzl, hzo⟩ := v8_list zd zd_len
  have HA := Lib.hid hA; have HZ := Lib.hid hZ
  have hu := Lib.hid Tryd.underlying24
  have la_HI := Lib.hid (inf_size infD32 la hal)
  have la_HS := Lib.hid (st_size la hal)
  have la_HO := Lib.hid (all_oneCell_toArray hao)
  have la_LI := Lib.hid (show (Tryd.prog.info? 24).map (·.size) = some la.length by rw [hal]; exact infD32)
  have lz_HI := Lib.hid (inf_size infD32 lz hzl)
  have lz_HS := Lib.hid (st_size lz hzl)
  have lz_HO := Lib.hid (all_oneCell_toArray hzo)
  have lz_LI := Lib.hid (show (Tryd.prog.info? 24).map (·.size) = some lz.length by rw [hzl]; exact infD32)
  have hzeq : List.replicate 32 (V8 0) = lz := by rw [hzm]; rfl
  have h0 := Lib.hid (arr3 w 24 la (List.replicate 32 (V8 0)) (List.replicate 32 (V8 0)))
  have HZQ := Lib.hid hzeq
  clear hzeq hzm hzl hzo hZ
  by_cases hbad : n < 0 ∨ 1048576 < n ∨ m < 0 ∨ n < m
  · have e : extS old m n path = (zd, zd, 2) := by unfold extS; rw [if_pos hbad]
    rw [e, hA]
    clear e hA hao hal hlen
    show Calls _ _ _ _ fun e w' => e = .returned (.tuple #[Dv zd, Dv zd, .int .i64 2]) ∧ Below w.heap.size w w'
    obtain ⟨av, cv, rfl⟩ := hV.shape
    clear hV
    by_cases b1 : n < 0
    · have c1 : decide (n < 0) = true := decide_eq_true b1
      go_enter Tryd.func24, Tryd.ntmps24
      have y1 := Lib.hid (h0.out.2.2.1.setRow_other (w.heap.size + 1) (List.replicate 32 (V8 0)).toArray (by omega))
      have y2 := Lib.hid ((h0.out.2.1.setRow (List.replicate 32 (V8 0)).toArray).setRow_other (w.heap.size + 1 + 1) (List.replicate 32 (V8 0)).toArray (by omega))
      go_wp2_with (first | ((with_reducible refine at_st 24 (.tmp 8) (.tmp 27) ?_); refine wpList_store_row rfl 24 (.tmp 8) (.tmp 27) rfl (w.heap.size + 1) (List.replicate 32 (V8 0)).toArray rfl rfl 24 _ h0.out.2.1 infZ rfl oneZ ?_) | ((with_reducible refine at_st 24 (.tmp 9) (.tmp 28) ?_); refine wpList_store_row rfl 24 (.tmp 9) (.tmp 28) rfl (w.heap.size + 1 + 1) (List.replicate 32 (V8 0)).toArray rfl rfl 24 _ y1.out infZ rfl oneZ ?_))
      exact bodyPost_ret (v := .tuple #[Dv zd, Dv zd, .int .i64 2]) (results_rrt rfl _ _ (w.heap.size + 1) (w.heap.size + 1 + 1) 24 _ _ _ _ _ _ rfl rfl rfl (y2.out) (setRow_heap _ _ _ _ _ _ y1.out) hu.out rfl infZ infZ) rfl ⟨rfl, below_setRow (below_setRow h0.out.2.2.2.1 (by omega) _) (by omega) _⟩
    · have c1 : decide (n < 0) = false := decide_eq_false b1
      by_cases b2 : 1048576 < n
      · have c2 : decide (1048576 < n) = true := decide_eq_true b2
        go_enter Tryd.func24, Tryd.ntmps24
        have y1 := Lib.hid (h0.out.2.2.1.setRow_other (w.heap.size + 1) (List.replicate 32 (V8 0)).toArray (by omega))
        have y2 := Lib.hid ((h0.out.2.1.setRow (List.replicate 32 (V8 0)).toArray).setRow_other (w.heap.size + 1 + 1) (List.replicate 32 (V8 0)).toArray (by omega))
        go_wp2_with (first | ((with_reducible refine at_st 24 (.tmp 8) (.tmp 27) ?_); refine wpList_store_row rfl 24 (.tmp 8) (.tmp 27) rfl (w.heap.size + 1) (List.replicate 32 (V8 0)).toArray rfl rfl 24 _ h0.out.2.1 infZ rfl oneZ ?_) | ((with_reducible refine at_st 24 (.tmp 9) (.tmp 28) ?_); refine wpList_store_row rfl 24 (.tmp 9) (.tmp 28) rfl (w.heap.size + 1 + 1) (List.replicate 32 (V8 0)).toArray rfl rfl 24 _ y1.out infZ rfl oneZ ?_))
        exact bodyPost_ret (v := .tuple #[Dv zd, Dv zd, .int .i64 2]) (results_rrt rfl _ _ (w.heap.size + 1) (w.heap.size + 1 + 1) 24 _ _ _ _ _ _ rfl rfl rfl (y2.out) (setRow_heap _ _ _ _ _ _ y1.out) hu.out rfl infZ infZ) rfl ⟨rfl, below_setRow (below_setRow h0.out.2.2.2.1 (by omega) _) (by omega) _⟩
      · have c2 : decide (1048576 < n) = false := decide_eq_false b2
        by_cases b3 : m < 0
        · have c3 : decide (m < 0) = true := decide_eq_true b3
          go_enter Tryd.func24, Tryd.ntmps24
          have y1 := Lib.hid (h0.out.2.2.1.setRow_other (w.heap.size + 1) (List.replicate 32 (V8 0)).toArray (by omega))
          have y2 := Lib.hid ((h0.out.2.1.setRow (List.replicate 32 (V8 0)).toArray).setRow_other (w.heap.size + 1 + 1) (List.replicate 32 (V8 0)).toArray (by omega))
          go_wp2_with (first | ((with_reducible refine at_st 24 (.tmp 8) (.tmp 27) ?_); refine wpList_store_row rfl 24 (.tmp 8) (.tmp 27) rfl (w.heap.size + 1) (List.replicate 32 (V8 0)).toArray rfl rfl 24 _ h0.out.2.1 infZ rfl oneZ ?_) | ((with_reducible refine at_st 24 (.tmp 9) (.tmp 28) ?_); refine wpList_store_row rfl 24 (.tmp 9) (.tmp 28) rfl (w.heap.size + 1 + 1) (List.replicate 32 (V8 0)).toArray rfl rfl 24 _ y1.out infZ rfl oneZ ?_))
          exact bodyPost_ret (v := .tuple #[Dv zd, Dv zd, .int .i64 2]) (results_rrt rfl _ _ (w.heap.size + 1) (w.heap.size + 1 + 1) 24 _ _ _ _ _ _ rfl rfl rfl (y2.out) (setRow_heap _ _ _ _ _ _ y1.out) hu.out rfl infZ infZ) rfl ⟨rfl, below_setRow (below_setRow h0.out.2.2.2.1 (by omega) _) (by omega) _⟩
        · have c3 : decide (m < 0) = false := decide_eq_false b3
          have b4 : n < m := by omega
          have c4 : decide (n < m) = true := decide_eq_true b4
          go_enter Tryd.func24, Tryd.ntmps24
          have y1 := Lib.hid (h0.out.2.2.1.setRow_other (w.heap.size + 1) (List.replicate 32 (V8 0)).toArray (by omega))
          have y2 := Lib.hid ((h0.out.2.1.setRow (List.replicate 32 (V8 0)).toArray).setRow_other (w.heap.size + 1 + 1) (List.replicate 32 (V8 0)).toArray (by omega))
          go_wp2_with (first | ((with_reducible refine at_st 24 (.tmp 8) (.tmp 27) ?_); refine wpList_store_row rfl 24 (.tmp 8) (.tmp 27) rfl (w.heap.size + 1) (List.replicate 32 (V8 0)).toArray rfl rfl 24 _ h0.out.2.1 infZ rfl oneZ ?_) | ((with_reducible refine at_st 24 (.tmp 9) (.tmp 28) ?_); refine wpList_store_row rfl 24 (.tmp 9) (.tmp 28) rfl (w.heap.size + 1 + 1) (List.replicate 32 (V8 0)).toArray rfl rfl 24 _ y1.out infZ rfl oneZ ?_))
          exact bodyPost_ret (v := .tuple #[Dv zd, Dv zd, .int .i64 2]) (results_rrt rfl _ _ (w.heap.size + 1) (w.heap.size + 1 + 1) 24 _ _ _ _ _ _ rfl rfl rfl (y2.out) (setRow_heap _ _ _ _ _ _ y1.out) hu.out rfl infZ infZ) rfl ⟨rfl, below_setRow (below_setRow h0.out.2.2.2.1 (by omega) _) (by omega) _⟩
  · have hg : 0 ≤ n ∧ n ≤ 1048576 ∧ 0 ≤ m ∧ m ≤ n := by omega
    obtain ⟨g1, g2, g3, g4⟩ := hg
    obtain ⟨nm, rfl⟩ : ∃ k : Nat, m = k := ⟨m.toNat, by omega⟩
    obtain ⟨nn, rfl⟩ : ∃ k : Nat, n = k := ⟨n.toNat, by omega⟩
    have c1 : decide ((nn : Int) < 0) = false := decide_eq_false (by omega)
    have c2 : decide ((1048576 : Int) < (nn : Int)) = false := decide_eq_false (by omega)
    have c3 : decide ((nm : Int) < 0) = false := decide_eq_false (by omega)
    have c4 : decide ((nn : Int) < (nm : Int)) = false := decide_eq_false (by omega)
    have e : extS old nm nn path = if nm = 0 then (if path.length = 0 then (old, zd, 0) else (zd, zd, 35)) else if path.length = pexl nm nn true then ((pext old nm nn true path).1, (pext old nm nn true path).2.1, 0) else (zd, zd, 35) := by
      unfold extS
      rw [if_neg hbad]
      simp only [Int.toNat_natCast]
    rw [e]
    clear e hbad
    have ⟨k0, k1, k2, k3, k4⟩ := h0.out
    have K0 := Lib.hid k0; have K1 := Lib.hid k1; have K2 := Lib.hid k2; have K3 := Lib.hid k3
    clear k0 k1 k2 k3 k4 h0
    by_cases hm0 : nm = 0
    · subst hm0
      rw [if_pos rfl]
      obtain ⟨av, cv, rfl⟩ := hV.shape
      by_cases hp0 : path.length = 0
      · rw [if_pos hp0]
        show Calls _ _ _ _ fun e w' => e = .returned (.tuple #[Dv old, Dv zd, .int .i64 0]) ∧ Below w.heap.size w w'
        rw [hp0, hA]
        clear hA hao hal hV hp0 hlen
        go_enter Tryd.func24, Tryd.ntmps24
        have K5 := Lib.hid (K1.out.setRow la.toArray); have K6 := Lib.hid (K2.out.setRow_other (w.heap.size + 1) la.toArray (by omega)); have K7 := Lib.hid (below_setRow K3.out (g := w.heap.size + 1) (by omega) la.toArray)
        go_upto_region 9 with (first | ((with_reducible refine at_ld 24 (.tmp 4) ?_); refine wpList_load_row rfl 24 (.tmp 4) rfl w.heap.size rfl 24 la.toArray (0, 0) _ K0.out hu.out rfl la_HI.out ?_) | ((with_reducible refine at_st 24 (.tmp 8) (.tmp 32) ?_); refine wpList_store_row rfl 24 (.tmp 8) (.tmp 32) rfl (w.heap.size + 1) la.toArray rfl rfl 24 _ K1.out la_HI.out la_HS.out la_HO.out ?_))
        have k5 := K5.out; have k6 := K6.out; have k7 := K7.out
        clear K0 K1 K2 K3 K5 K6 K7
        change Code.wp _ _ _ _ ((((w.alloc (.cells la.toArray 24)).alloc (.cells (List.replicate 32 (V8 0)).toArray 24)).alloc (.cells (List.replicate 32 (V8 0)).toArray 24)).setRow (w.heap.size + 1) la.toArray)
        change Arr ((((w.alloc (.cells la.toArray 24)).alloc (.cells (List.replicate 32 (V8 0)).toArray 24)).alloc (.cells (List.replicate 32 (V8 0)).toArray 24)).setRow (w.heap.size + 1) la.toArray) (w.heap.size + 1) 24 la at k5
        generalize ((((w.alloc (.cells la.toArray 24)).alloc (.cells (List.replicate 32 (V8 0)).toArray 24)).alloc (.cells (List.replicate 32 (V8 0)).toArray 24)).setRow (w.heap.size + 1) la.toArray) = wv at *
        rw [HZQ.out] at k6
        go_upto_region 9 with (fail)
        have g1 := k5.range; have g2 := k6.range
        have l1 := k5.lt; have l2 := k6.lt
        refine wp_region_class 4 [2, 3] [0, 1, 2, 3] (Below wv.heap.size wv) (Stable.below wv) (Below.refl _ _).drew (by kernel_rfl) (by kernel_rfl) ?_
        simp only [opsOf, List.getElem?_cons_succ, List.getElem?_cons_zero, List.drop_succ_cons, List.drop_zero]
        refine wpL_val (.agg la.toArray) rfl (by rfl) (fun wq hq => quiet_ld 24 _ rfl _ _ rfl la _ (range_below g1 hq l1) hu.out rfl la_LI.out) ?_
        try simp only [Act.put, List.setIfInBounds_toArray, List.set_cons_zero, List.set_cons_succ]
        refine wpL_val (.agg lz.toArray) rfl (by rfl) (fun wq hq => quiet_ld 24 _ rfl _ _ rfl lz _ (range_below g2 hq l2) hu.out rfl lz_LI.out) ?_
        try simp only [Act.put, List.setIfInBounds_toArray, List.set_cons_zero, List.set_cons_succ]
        refine wpL_store rfl (by rfl) 24 (.tmp 8) (.tmp 48) rfl (w.heap.size + 1) la.toArray rfl rfl 24 _ (fun wq hq => k5.below hq k5.lt) la_HI.out rfl la_HO.out (Stable.below _) (fun wq hq => below_again hq k5) ?_
        try simp only [Act.put, List.setIfInBounds_toArray, List.set_cons_zero, List.set_cons_succ]
        refine wpL_store rfl (by rfl) 24 (.tmp 9) (.tmp 49) rfl (w.heap.size + 1 + 1) lz.toArray rfl rfl 24 _ (fun wq hq => k6.below (below_two k5 hq) k6.lt) lz_HI.out rfl lz_HO.out (Stable.below _) (fun wq hq => below_again (below_two k5 hq) k6) ?_
        try simp only [Act.put, List.setIfInBounds_toArray, List.set_cons_zero, List.set_cons_succ]
        refine wpL_nil ?_
        intro wt hwt
        have hwt2 := below_two2 k5 k6 hwt
        have z1 := k5.below hwt2 k5.lt
        have z2 := k6.below hwt2 k6.lt
        have zB := k7.trans (hwt2.mono (by have := k7.size; omega))
        clear hwt
        go_wp2_with fail
        exact bodyPost_ret (v := .tuple #[.agg la.toArray, .agg lz.toArray, .int .i64 0]) (results_rrt rfl _ _ (w.heap.size + 1) (w.heap.size + 1 + 1) 24 _ _ _ _ _ _ rfl rfl rfl (z1) (z2) hu.out rfl la_HI.out lz_HI.out) rfl ⟨by rw [HZ.out], zB⟩
      · rw [if_neg hp0]
        show Calls _ _ _ _ fun e w' => e = .returned (.tuple #[Dv zd, Dv zd, .int .i64 35]) ∧ Below w.heap.size w w'
        rw [hA]
        have hpi : ¬ ((path.length : Nat) : Int) = 0 := by omega
        have hpj : (0 : Int) < ((path.length : Nat) : Int) := by omega
        clear hA hao hal hV hlen
        generalize path.length = q at *
        have cq : (((q : Nat) : Int) == 0) = false := by simp; omega
        go_enter Tryd.func24, Tryd.ntmps24
        have K5 := Lib.hid (K1.out.setRow la.toArray); have K6 := Lib.hid (K2.out.setRow_other (w.heap.size + 1) la.toArray (by omega)); have K7 := Lib.hid (below_setRow K3.out (g := w.heap.size + 1) (by omega) la.toArray)
        have b1 := Lib.hid (K6.out.setRow_other (w.heap.size + 1) (List.replicate 32 (V8 0)).toArray (by omega))
        have b2 := Lib.hid ((K5.out.setRow (List.replicate 32 (V8 0)).toArray).setRow_other (w.heap.size + 1 + 1) (List.replicate 32 (V8 0)).toArray (by omega))
        go_wp2_with (first | ((with_reducible refine at_ld 24 (.tmp 4) ?_); refine wpList_load_row rfl 24 (.tmp 4) rfl w.heap.size rfl 24 la.toArray (0, 0) _ K0.out hu.out rfl la_HI.out ?_) | ((with_reducible refine at_st 24 (.tmp 8) (.tmp 32) ?_); refine wpList_store_row rfl 24 (.tmp 8) (.tmp 32) rfl (w.heap.size + 1) la.toArray rfl rfl 24 _ K1.out la_HI.out la_HS.out la_HO.out ?_) | ((with_reducible refine at_st 24 (.tmp 8) (.tmp 46) ?_); refine wpList_store_row rfl 24 (.tmp 8) (.tmp 46) rfl (w.heap.size + 1) (List.replicate 32 (V8 0)).toArray rfl rfl 24 _ K5.out infZ la_HS.out.symm oneZ ?_) | ((with_reducible refine at_st 24 (.tmp 9) (.tmp 47) ?_); refine wpList_store_row rfl 24 (.tmp 9) (.tmp 47) rfl (w.heap.size + 1 + 1) (List.replicate 32 (V8 0)).toArray rfl rfl 24 _ b1.out infZ rfl oneZ ?_))
        exact bodyPost_ret (v := .tuple #[Dv zd, Dv zd, .int .i64 35]) (results_rrt rfl _ _ (w.heap.size + 1) (w.heap.size + 1 + 1) 24 _ _ _ _ _ _ rfl rfl rfl (b2.out) (setRow_heap _ _ _ _ _ _ b1.out) hu.out rfl infZ infZ) rfl ⟨rfl, below_setRow (below_setRow K7.out (by omega) _) (by omega) _⟩
    · rw [if_neg hm0]
      have hm1 : ¬ ((nm : Int) = 0) := by omega
      have hm2 : (0 : Int) < (nm : Int) := by omega
      have hrl := pext_length nn old nm nn true path (Nat.le_refl _) hlf hV.all
      have hcl := fun v w hV hK => extends_any nn old nm nn true path v w hlf (Nat.le_refl _) (by omega) (by omega) (by omega) hlen hV hK
      have hok := pext_ok nn old nm nn true path (Nat.le_refl _) (by omega) (by omega)
      have Hk := Lib.hid hK
      clear hK
      generalize pext old nm nn true path = rr at *
      obtain ⟨ra, rb, ok⟩ := rr
      simp only at hrl hcl hok ⊢
      obtain ⟨lra, hRA, -, hral, hrao⟩ := v8_list ra hrl.1
      obtain ⟨lrb, hRB, -, hrbl, hrbo⟩ := v8_list rb hrl.2
      have HRA := Lib.hid hRA; have HRB := Lib.hid hRB
      have lra_HI := Lib.hid (inf_size infD32 lra hral); have lra_HS := Lib.hid (st_size lra hral); have lra_HO := Lib.hid (all_oneCell_toArray hrao)
      have lrb_HI := Lib.hid (inf_size infD32 lrb hrbl); have lrb_HS := Lib.hid (st_size lrb hrbl); have lrb_HO := Lib.hid (all_oneCell_toArray hrbo)
      have lra_LI := Lib.hid (show (Tryd.prog.info? 24).map (·.size) = some lra.length by rw [hral]; exact infD32)
      have lrb_LI := Lib.hid (show (Tryd.prog.info? 24).map (·.size) = some lrb.length by rw [hrbl]; exact infD32)
      have HV := Lib.hid hV
      have hsh := hV.shape
      rw [hA] at hcl ⊢
      clear hRA hRB hral hrao hrbl hrbo hA hao hal hV
      obtain ⟨av, cv, rfl⟩ := hsh
      by_cases hl : path.length = pexl nm nn true
      · rw [if_pos hl]
        obtain rfl : ok = true := by rw [hok]; exact decide_eq_true hl
        clear hok hl hlen
        show Calls _ _ _ _ fun e w' => e = .returned (.tuple #[Dv ra, Dv rb, .int .i64 0]) ∧ Below w.heap.size w w'
        generalize path.length = q at *
        go_enter Tryd.func24, Tryd.ntmps24
        have K5 := Lib.hid (K1.out.setRow la.toArray); have K6 := Lib.hid (K2.out.setRow_other (w.heap.size + 1) la.toArray (by omega)); have K7 := Lib.hid (below_setRow K3.out (g := w.heap.size + 1) (by omega) la.toArray)
        have KA := Lib.hid (K0.out.setRow_other (w.heap.size + 1) la.toArray (by omega))
        go_upto_region 6 with (first | ((with_reducible refine at_ld 24 (.tmp 4) ?_); refine wpList_load_row rfl 24 (.tmp 4) rfl w.heap.size rfl 24 la.toArray (0, 0) _ K0.out hu.out rfl la_HI.out ?_) | ((with_reducible refine at_st 24 (.tmp 8) (.tmp 32) ?_); refine wpList_store_row rfl 24 (.tmp 8) (.tmp 32) rfl (w.heap.size + 1) la.toArray rfl rfl 24 _ K1.out la_HI.out la_HS.out la_HO.out ?_))
        have k5 := K5.out; have k6 := K6.out; have k7 := K7.out; have ka := KA.out
        clear K0 K1 K2 K3 K5 K6 K7 KA
        change Code.wp _ _ _ _ ((((w.alloc (.cells la.toArray 24)).alloc (.cells (List.replicate 32 (V8 0)).toArray 24)).alloc (.cells (List.replicate 32 (V8 0)).toArray 24)).setRow (w.heap.size + 1) la.toArray)
        change Arr ((((w.alloc (.cells la.toArray 24)).alloc (.cells (List.replicate 32 (V8 0)).toArray 24)).alloc (.cells (List.replicate 32 (V8 0)).toArray 24)).setRow (w.heap.size + 1) la.toArray) (w.heap.size + 1) 24 la at k5
        generalize ((((w.alloc (.cells la.toArray 24)).alloc (.cells (List.replicate 32 (V8 0)).toArray 24)).alloc (.cells (List.replicate 32 (V8 0)).toArray 24)).setRow (w.heap.size + 1) la.toArray) = wv at *
        go_wp2_with ((with_reducible refine at_ld 24 (.tmp 4) ?_); refine wpList_load_row rfl 24 (.tmp 4) rfl w.heap.size rfl 24 la.toArray (0, 0) _ ka hu.out rfl la_HI.out ?_)
        refine (hcl _ _ (HV.out.below k7 (Nat.le_refl _)) (Hk.out.below k7 (Nat.le_refl _))).mono ?_
        rintro e w2 ⟨rfl, hb2⟩
        rw [HRA.out, HRB.out]
        have q1 := k5.below hb2 k5.lt
        have q2 := k6.below hb2 k6.lt
        have qB := k7.trans (hb2.mono k7.size)
        clear k5 k6 k7 ka hb2 hcl
        have s1 := q1.setRow lra.toArray
        have s2 := q2.setRow_other (w.heap.size + 1) lra.toArray (by omega)
        have t1 := s1.setRow_other (w.heap.size + 1 + 1) lrb.toArray (by omega)
        have t2 := s2.setRow lrb.toArray
        have tB : Below w.heap.size w ((w2.setRow (w.heap.size + 1) lra.toArray).setRow (w.heap.size + 1 + 1) lrb.toArray) := below_setRow (below_setRow qB (by omega) _) (by omega) _
        go_upto_region 7 with (first | ((with_reducible refine at_st 24 (.tmp 8) (.tmp 41) ?_); refine wpList_store_row rfl 24 (.tmp 8) (.tmp 41) rfl (w.heap.size + 1) lra.toArray rfl rfl 24 _ q1 lra_HI.out (la_HS.out.symm.trans lra_HS.out) lra_HO.out ?_) | ((with_reducible refine at_st 24 (.tmp 9) (.tmp 42) ?_); refine wpList_store_row rfl 24 (.tmp 9) (.tmp 42) rfl (w.heap.size + 1 + 1) lrb.toArray rfl rfl 24 _ s2 lrb_HI.out lrb_HS.out lrb_HO.out ?_))
        change Code.wp _ _ _ _ ((w2.setRow (w.heap.size + 1) lra.toArray).setRow (w.heap.size + 1 + 1) lrb.toArray)
        change Arr ((w2.setRow (w.heap.size + 1) lra.toArray).setRow (w.heap.size + 1 + 1) lrb.toArray) (w.heap.size + 1) 24 lra at t1
        change Arr ((w2.setRow (w.heap.size + 1) lra.toArray).setRow (w.heap.size + 1 + 1) lrb.toArray) (w.heap.size + 1 + 1) 24 lrb at t2
        clear q1 q2 qB s1 s2
        generalize (w2.setRow (w.heap.size + 1) lra.toArray).setRow (w.heap.size + 1 + 1) lrb.toArray = w3 at *
        go_upto_region 9 with (fail)
        have g1 := t1.range; have g2 := t2.range
        have l1 := t1.lt; have l2 := t2.lt
        refine wp_region_class 4 [2, 3] [0, 1, 2, 3] (Below w3.heap.size w3) (Stable.below w3) (Below.refl _ _).drew (by kernel_rfl) (by kernel_rfl) ?_
        simp only [opsOf, List.getElem?_cons_succ, List.getElem?_cons_zero, List.drop_succ_cons, List.drop_zero]
        refine wpL_val (.agg lra.toArray) rfl (by rfl) (fun wq hq => quiet_ld 24 _ rfl _ _ rfl lra _ (range_below g1 hq l1) hu.out rfl lra_LI.out) ?_
        try simp only [Act.put, List.setIfInBounds_toArray, List.set_cons_zero, List.set_cons_succ]
        refine wpL_val (.agg lrb.toArray) rfl (by rfl) (fun wq hq => quiet_ld 24 _ rfl _ _ rfl lrb _ (range_below g2 hq l2) hu.out rfl lrb_LI.out) ?_
        try simp only [Act.put, List.setIfInBounds_toArray, List.set_cons_zero, List.set_cons_succ]
        refine wpL_store rfl (by rfl) 24 (.tmp 8) (.tmp 48) rfl (w.heap.size + 1) lra.toArray rfl rfl 24 _ (fun wq hq => t1.below hq t1.lt) lra_HI.out rfl lra_HO.out (Stable.below _) (fun wq hq => below_again hq t1) ?_
        try simp only [Act.put, List.setIfInBounds_toArray, List.set_cons_zero, List.set_cons_succ]
        refine wpL_store rfl (by rfl) 24 (.tmp 9) (.tmp 49) rfl (w.heap.size + 1 + 1) lrb.toArray rfl rfl 24 _ (fun wq hq => t2.below (below_two t1 hq) t2.lt) lrb_HI.out rfl lrb_HO.out (Stable.below _) (fun wq hq => below_again (below_two t1 hq) t2) ?_
        try simp only [Act.put, List.setIfInBounds_toArray, List.set_cons_zero, List.set_cons_succ]
        refine wpL_nil ?_
        intro wt hwt
        have hwt2 := below_two2 t1 t2 hwt
        have z1 := t1.below hwt2 t1.lt
        have z2 := t2.below hwt2 t2.lt
        have zB := tB.trans (hwt2.mono (by have := tB.size; omega))
        clear hwt
        go_wp2_with fail
        exact bodyPost_ret (v := .tuple #[.agg lra.toArray, .agg lrb.toArray, .int .i64 0]) (results_rrt rfl _ _ (w.heap.size + 1) (w.heap.size + 1 + 1) 24 _ _ _ _ _ _ rfl rfl rfl (z1) (z2) hu.out rfl lra_HI.out lrb_HI.out) rfl ⟨by simp only [HRA.out, HRB.out], zB⟩
      · rw [if_neg hl]
        obtain rfl : ok = false := by rw [hok]; exact decide_eq_false hl
        clear hok hl hlen
        show Calls _ _ _ _ fun e w' => e = .returned (.tuple #[Dv zd, Dv zd, .int .i64 35]) ∧ Below w.heap.size w w'
        generalize path.length = q at *
        go_enter Tryd.func24, Tryd.ntmps24
        have K5 := Lib.hid (K1.out.setRow la.toArray); have K6 := Lib.hid (K2.out.setRow_other (w.heap.size + 1) la.toArray (by omega)); have K7 := Lib.hid (below_setRow K3.out (g := w.heap.size + 1) (by omega) la.toArray)
        have KA := Lib.hid (K0.out.setRow_other (w.heap.size + 1) la.toArray (by omega))
        go_upto_region 6 with (first | ((with_reducible refine at_ld 24 (.tmp 4) ?_); refine wpList_load_row rfl 24 (.tmp 4) rfl w.heap.size rfl 24 la.toArray (0, 0) _ K0.out hu.out rfl la_HI.out ?_) | ((with_reducible refine at_st 24 (.tmp 8) (.tmp 32) ?_); refine wpList_store_row rfl 24 (.tmp 8) (.tmp 32) rfl (w.heap.size + 1) la.toArray rfl rfl 24 _ K1.out la_HI.out la_HS.out la_HO.out ?_))
        have k5 := K5.out; have k6 := K6.out; have k7 := K7.out; have ka := KA.out
        clear K0 K1 K2 K3 K5 K6 K7 KA
        change Code.wp _ _ _ _ ((((w.alloc (.cells la.toArray 24)).alloc (.cells (List.replicate 32 (V8 0)).toArray 24)).alloc (.cells (List.replicate 32 (V8 0)).toArray 24)).setRow (w.heap.size + 1) la.toArray)
        change Arr ((((w.alloc (.cells la.toArray 24)).alloc (.cells (List.replicate 32 (V8 0)).toArray 24)).alloc (.cells (List.replicate 32 (V8 0)).toArray 24)).setRow (w.heap.size + 1) la.toArray) (w.heap.size + 1) 24 la at k5
        generalize ((((w.alloc (.cells la.toArray 24)).alloc (.cells (List.replicate 32 (V8 0)).toArray 24)).alloc (.cells (List.replicate 32 (V8 0)).toArray 24)).setRow (w.heap.size + 1) la.toArray) = wv at *
        go_wp2_with ((with_reducible refine at_ld 24 (.tmp 4) ?_); refine wpList_load_row rfl 24 (.tmp 4) rfl w.heap.size rfl 24 la.toArray (0, 0) _ ka hu.out rfl la_HI.out ?_)
        refine (hcl _ _ (HV.out.below k7 (Nat.le_refl _)) (Hk.out.below k7 (Nat.le_refl _))).mono ?_
        rintro e w2 ⟨rfl, hb2⟩
        rw [HRA.out, HRB.out]
        have q1 := k5.below hb2 k5.lt
        have q2 := k6.below hb2 k6.lt
        have qB := k7.trans (hb2.mono k7.size)
        clear k5 k6 k7 ka hb2 hcl
        have s1 := q1.setRow lra.toArray
        have s2 := q2.setRow_other (w.heap.size + 1) lra.toArray (by omega)
        have t1 := s1.setRow_other (w.heap.size + 1 + 1) lrb.toArray (by omega)
        have t2 := s2.setRow lrb.toArray
        have tB : Below w.heap.size w ((w2.setRow (w.heap.size + 1) lra.toArray).setRow (w.heap.size + 1 + 1) lrb.toArray) := below_setRow (below_setRow qB (by omega) _) (by omega) _
        go_upto_region 7 with (first | ((with_reducible refine at_st 24 (.tmp 8) (.tmp 41) ?_); refine wpList_store_row rfl 24 (.tmp 8) (.tmp 41) rfl (w.heap.size + 1) lra.toArray rfl rfl 24 _ q1 lra_HI.out (la_HS.out.symm.trans lra_HS.out) lra_HO.out ?_) | ((with_reducible refine at_st 24 (.tmp 9) (.tmp 42) ?_); refine wpList_store_row rfl 24 (.tmp 9) (.tmp 42) rfl (w.heap.size + 1 + 1) lrb.toArray rfl rfl 24 _ s2 lrb_HI.out lrb_HS.out lrb_HO.out ?_))
        change Code.wp _ _ _ _ ((w2.setRow (w.heap.size + 1) lra.toArray).setRow (w.heap.size + 1 + 1) lrb.toArray)
        change Arr ((w2.setRow (w.heap.size + 1) lra.toArray).setRow (w.heap.size + 1 + 1) lrb.toArray) (w.heap.size + 1) 24 lra at t1
        change Arr ((w2.setRow (w.heap.size + 1) lra.toArray).setRow (w.heap.size + 1 + 1) lrb.toArray) (w.heap.size + 1 + 1) 24 lrb at t2
        clear q1 q2 qB s1 s2
        generalize (w2.setRow (w.heap.size + 1) lra.toArray).setRow (w.heap.size + 1 + 1) lrb.toArray = w3 at *
        have b1 := Lib.hid (t2.setRow_other (w.heap.size + 1) (List.replicate 32 (V8 0)).toArray (by omega))
        have b2 := Lib.hid ((t1.setRow (List.replicate 32 (V8 0)).toArray).setRow_other (w.heap.size + 1 + 1) (List.replicate 32 (V8 0)).toArray (by omega))
        go_wp2_with (first | ((with_reducible refine at_st 24 (.tmp 8) (.tmp 46) ?_); refine wpList_store_row rfl 24 (.tmp 8) (.tmp 46) rfl (w.heap.size + 1) (List.replicate 32 (V8 0)).toArray rfl rfl 24 _ t1 infZ lra_HS.out.symm oneZ ?_) | ((with_reducible refine at_st 24 (.tmp 9) (.tmp 47) ?_); refine wpList_store_row rfl 24 (.tmp 9) (.tmp 47) rfl (w.heap.size + 1 + 1) (List.replicate 32 (V8 0)).toArray rfl rfl 24 _ b1.out infZ lrb_HS.out.symm oneZ ?_))
        exact bodyPost_ret (v := .tuple #[Dv zd, Dv zd, .int .i64 35]) (results_rrt rfl _ _ (w.heap.size + 1) (w.heap.size + 1 + 1) 24 _ _ _ _ _ _ rfl rfl rfl (b2.out) (setRow_heap _ _ _ _ _ _ b1.out) hu.out rfl infZ infZ) rfl ⟨rfl, below_setRow (below_setRow tB (by omega) _) (by omega) _⟩
set_option maxRecDepth 100000 in
set_option linter.unusedSimpArgs false in
set_option maxHeartbeats 1000000 in
theorem extRS_any (old : List UInt8) (m n : Int) (path : List (List UInt8)) (v : Value) (w : World) (hlf : old.length = 32) (hV : Digs w v path) :
    Calls Tryd.prog 25 #[Dv old, .int .i64 m, .int .i64 n, v] w fun e w' => e = .returned (.tuple #[Dv (extS old m n path).1, Dv (extS old m n path).2.1, .int .i64 (extS old m n path).2.2]) ∧ Below w.heap.size w w' := by
  obtain ⟨la, hA, -, hal, hao⟩ := v8_list old hlf
  obtain ⟨lz, hZ, hzm, hzl, hzo⟩ := v8_list zd zd_len
  have HA := Lib.hid hA; have HZ := Lib.hid hZ
  have hu := Lib.hid Tryd.underlying23
  have la_HI := Lib.hid (inf_size infR32 la hal)
  have la_HS := Lib.hid (st_size la hal)
  have la_HO := Lib.hid (all_oneCell_toArray hao)
  have la_LI := Lib.hid (show (Tryd.prog.info? 23).map (·.size) = some la.length by rw [hal]; exact infR32)
  have lz_HI := Lib.hid (inf_size infR32 lz hzl)
  have lz_HS := Lib.hid (st_size lz hzl)
  have lz_HO := Lib.hid (all_oneCell_toArray hzo)
  have lz_LI := Lib.hid (show (Tryd.prog.info? 23).map (·.size) = some lz.length by rw [hzl]; exact infR32)
  have hzeq : List.replicate 32 (V8 0) = lz := by rw [hzm]; rfl
  have h0 := Lib.hid (arr3 w 23 la (List.replicate 32 (V8 0)) (List.replicate 32 (V8 0)))
  have HZQ := Lib.hid hzeq
  clear hzeq hzm hzl hzo hZ
  by_cases hbad : n < 0 ∨ 1048576 < n ∨ m < 0 ∨ n < m
  · have e : extS old m n path = (zd, zd, 2) := by unfold extS; rw [if_pos hbad]
    rw [e, hA]
    clear e hA hao hal
    show Calls _ _ _ _ fun e w' => e = .returned (.tuple #[Dv zd, Dv zd, .int .i64 2]) ∧ Below w.heap.size w w'
    obtain ⟨av, cv, rfl⟩ := hV.shape
    clear hV
    by_cases b1 : n < 0
    · have c1 : decide (n < 0) = true := decide_eq_true b1
      go_enter Tryd.func25, Tryd.ntmps25
      have y1 := Lib.hid (h0.out.2.2.1.setRow_other (w.heap.size + 1) (List.replicate 32 (V8 0)).toArray (by omega))
      have y2 := Lib.hid ((h0.out.2.1.setRow (List.replicate 32 (V8 0)).toArray).setRow_other (w.heap.size + 1 + 1) (List.replicate 32 (V8 0)).toArray (by omega))
      go_wp2_with (first | ((with_reducible refine at_st 23 (.tmp 8) (.tmp 26) ?_); refine wpList_store_row rfl 23 (.tmp 8) (.tmp 26) rfl (w.heap.size + 1) (List.replicate 32 (V8 0)).toArray rfl rfl 23 _ h0.out.2.1 infZR rfl oneZ ?_) | ((with_reducible refine at_st 23 (.tmp 9) (.tmp 27) ?_); refine wpList_store_row rfl 23 (.tmp 9) (.tmp 27) rfl (w.heap.size + 1 + 1) (List.replicate 32 (V8 0)).toArray rfl rfl 23 _ y1.out infZR rfl oneZ ?_))
      exact bodyPost_ret (v := .tuple #[Dv zd, Dv zd, .int .i64 2]) (results_rrt rfl _ _ (w.heap.size + 1) (w.heap.size + 1 + 1) 23 _ _ _ _ _ _ rfl rfl rfl (y2.out) (setRow_heap _ _ _ _ _ _ y1.out) hu.out rfl infZR infZR) rfl ⟨rfl, below_setRow (below_setRow h0.out.2.2.2.1 (by omega) _) (by omega) _⟩
    · have c1 : decide (n < 0) = false := decide_eq_false b1
      by_cases b2 : 1048576 < n
      · have c2 : decide (1048576 < n) = true := decide_eq_true b2
        go_enter Tryd.func25, Tryd.ntmps25
        have y1 := Lib.hid (h0.out.2.2.1.setRow_other (w.heap.size + 1) (List.replicate 32 (V8 0)).toArray (by omega))
        have y2 := Lib.hid ((h0.out.2.1.setRow (List.replicate 32 (V8 0)).toArray).setRow_other (w.heap.size + 1 + 1) (List.replicate 32 (V8 0)).toArray (by omega))
        go_wp2_with (first | ((with_reducible refine at_st 23 (.tmp 8) (.tmp 26) ?_); refine wpList_store_row rfl 23 (.tmp 8) (.tmp 26) rfl (w.heap.size + 1) (List.replicate 32 (V8 0)).toArray rfl rfl 23 _ h0.out.2.1 infZR rfl oneZ ?_) | ((with_reducible refine at_st 23 (.tmp 9) (.tmp 27) ?_); refine wpList_store_row rfl 23 (.tmp 9) (.tmp 27) rfl (w.heap.size + 1 + 1) (List.replicate 32 (V8 0)).toArray rfl rfl 23 _ y1.out infZR rfl oneZ ?_))
        exact bodyPost_ret (v := .tuple #[Dv zd, Dv zd, .int .i64 2]) (results_rrt rfl _ _ (w.heap.size + 1) (w.heap.size + 1 + 1) 23 _ _ _ _ _ _ rfl rfl rfl (y2.out) (setRow_heap _ _ _ _ _ _ y1.out) hu.out rfl infZR infZR) rfl ⟨rfl, below_setRow (below_setRow h0.out.2.2.2.1 (by omega) _) (by omega) _⟩
      · have c2 : decide (1048576 < n) = false := decide_eq_false b2
        by_cases b3 : m < 0
        · have c3 : decide (m < 0) = true := decide_eq_true b3
          go_enter Tryd.func25, Tryd.ntmps25
          have y1 := Lib.hid (h0.out.2.2.1.setRow_other (w.heap.size + 1) (List.replicate 32 (V8 0)).toArray (by omega))
          have y2 := Lib.hid ((h0.out.2.1.setRow (List.replicate 32 (V8 0)).toArray).setRow_other (w.heap.size + 1 + 1) (List.replicate 32 (V8 0)).toArray (by omega))
          go_wp2_with (first | ((with_reducible refine at_st 23 (.tmp 8) (.tmp 26) ?_); refine wpList_store_row rfl 23 (.tmp 8) (.tmp 26) rfl (w.heap.size + 1) (List.replicate 32 (V8 0)).toArray rfl rfl 23 _ h0.out.2.1 infZR rfl oneZ ?_) | ((with_reducible refine at_st 23 (.tmp 9) (.tmp 27) ?_); refine wpList_store_row rfl 23 (.tmp 9) (.tmp 27) rfl (w.heap.size + 1 + 1) (List.replicate 32 (V8 0)).toArray rfl rfl 23 _ y1.out infZR rfl oneZ ?_))
          exact bodyPost_ret (v := .tuple #[Dv zd, Dv zd, .int .i64 2]) (results_rrt rfl _ _ (w.heap.size + 1) (w.heap.size + 1 + 1) 23 _ _ _ _ _ _ rfl rfl rfl (y2.out) (setRow_heap _ _ _ _ _ _ y1.out) hu.out rfl infZR infZR) rfl ⟨rfl, below_setRow (below_setRow h0.out.2.2.2.1 (by omega) _) (by omega) _⟩
        · have c3 : decide (m < 0) = false := decide_eq_false b3
          have b4 : n < m := by omega
          have c4 : decide (n < m) = true := decide_eq_true b4
          go_enter Tryd.func25, Tryd.ntmps25
          have y1 := Lib.hid (h0.out.2.2.1.setRow_other (w.heap.size + 1) (List.replicate 32 (V8 0)).toArray (by omega))
          have y2 := Lib.hid ((h0.out.2.1.setRow (List.replicate 32 (V8 0)).toArray).setRow_other (w.heap.size + 1 + 1) (List.replicate 32 (V8 0)).toArray (by omega))
          go_wp2_with (first | ((with_reducible refine at_st 23 (.tmp 8) (.tmp 26) ?_); refine wpList_store_row rfl 23 (.tmp 8) (.tmp 26) rfl (w.heap.size + 1) (List.replicate 32 (V8 0)).toArray rfl rfl 23 _ h0.out.2.1 infZR rfl oneZ ?_) | ((with_reducible refine at_st 23 (.tmp 9) (.tmp 27) ?_); refine wpList_store_row rfl 23 (.tmp 9) (.tmp 27) rfl (w.heap.size + 1 + 1) (List.replicate 32 (V8 0)).toArray rfl rfl 23 _ y1.out infZR rfl oneZ ?_))
          exact bodyPost_ret (v := .tuple #[Dv zd, Dv zd, .int .i64 2]) (results_rrt rfl _ _ (w.heap.size + 1) (w.heap.size + 1 + 1) 23 _ _ _ _ _ _ rfl rfl rfl (y2.out) (setRow_heap _ _ _ _ _ _ y1.out) hu.out rfl infZR infZR) rfl ⟨rfl, below_setRow (below_setRow h0.out.2.2.2.1 (by omega) _) (by omega) _⟩
  · have hg : 0 ≤ n ∧ n ≤ 1048576 ∧ 0 ≤ m ∧ m ≤ n := by omega
    obtain ⟨g1, g2, g3, g4⟩ := hg
    obtain ⟨nm, rfl⟩ : ∃ k : Nat, m = k := ⟨m.toNat, by omega⟩
    obtain ⟨nn, rfl⟩ : ∃ k : Nat, n = k := ⟨n.toNat, by omega⟩
    have c1 : decide ((nn : Int) < 0) = false := decide_eq_false (by omega)
    have c2 : decide ((1048576 : Int) < (nn : Int)) = false := decide_eq_false (by omega)
    have c3 : decide ((nm : Int) < 0) = false := decide_eq_false (by omega)
    have c4 : decide ((nn : Int) < (nm : Int)) = false := decide_eq_false (by omega)
    have e : extS old nm nn path = if nm = 0 then (if path.length = 0 then (old, zd, 0) else (zd, zd, 35)) else if path.length = pexl nm nn true then ((pext old nm nn true path).1, (pext old nm nn true path).2.1, 0) else (zd, zd, 35) := by
      unfold extS
      rw [if_neg hbad]
      simp only [Int.toNat_natCast]
    rw [e]
    clear e hbad
    have ⟨k0, k1, k2, k3, k4⟩ := h0.out
    have K0 := Lib.hid k0; have K1 := Lib.hid k1; have K2 := Lib.hid k2; have K3 := Lib.hid k3
    clear k0 k1 k2 k3 k4 h0
    by_cases hm0 : nm = 0
    · subst hm0
      rw [if_pos rfl]
      obtain ⟨av, cv, rfl⟩ := hV.shape
      by_cases hp0 : path.length = 0
      · rw [if_pos hp0]
        show Calls _ _ _ _ fun e w' => e = .returned (.tuple #[Dv old, Dv zd, .int .i64 0]) ∧ Below w.heap.size w w'
        rw [hp0, hA]
        clear hA hao hal hV hp0
        go_enter Tryd.func25, Tryd.ntmps25
        have K5 := Lib.hid (K1.out.setRow la.toArray); have K6 := Lib.hid (K2.out.setRow_other (w.heap.size + 1) la.toArray (by omega)); have K7 := Lib.hid (below_setRow K3.out (g := w.heap.size + 1) (by omega) la.toArray)
        have b2 := Lib.hid (K5.out.setRow_other (w.heap.size + 1 + 1) (List.replicate 32 (V8 0)).toArray (by omega))
        go_wp2_with (first | ((with_reducible refine at_ld 23 (.tmp 4) ?_); refine wpList_load_row rfl 23 (.tmp 4) rfl w.heap.size rfl 23 la.toArray (0, 0) _ K0.out hu.out rfl la_HI.out ?_) | ((with_reducible refine at_st 23 (.tmp 8) (.tmp 35) ?_); refine wpList_store_row rfl 23 (.tmp 8) (.tmp 35) rfl (w.heap.size + 1) la.toArray rfl rfl 23 _ K1.out la_HI.out la_HS.out la_HO.out ?_) | ((with_reducible refine at_st 23 (.tmp 9) (.tmp 36) ?_); refine wpList_store_row rfl 23 (.tmp 9) (.tmp 36) rfl (w.heap.size + 1 + 1) (List.replicate 32 (V8 0)).toArray rfl rfl 23 _ K6.out infZR rfl oneZ ?_))
        exact bodyPost_ret (v := .tuple #[.agg la.toArray, Dv zd, .int .i64 0]) (results_rrt rfl _ _ (w.heap.size + 1) (w.heap.size + 1 + 1) 23 _ _ _ _ _ _ rfl rfl rfl (b2.out) (setRow_heap _ _ _ _ _ _ K6.out) hu.out rfl la_HI.out infZR) rfl ⟨rfl, below_setRow K7.out (by omega) _⟩
      · rw [if_neg hp0]
        show Calls _ _ _ _ fun e w' => e = .returned (.tuple #[Dv zd, Dv zd, .int .i64 35]) ∧ Below w.heap.size w w'
        rw [hA]
        have hpi : ¬ ((path.length : Nat) : Int) = 0 := by omega
        have hpj : (0 : Int) < ((path.length : Nat) : Int) := by omega
        clear hA hao hal hV
        generalize path.length = q at *
        have cq : (((q : Nat) : Int) == 0) = false := by simp; omega
        go_enter Tryd.func25, Tryd.ntmps25
        have b1 := Lib.hid (K2.out.setRow_other (w.heap.size + 1) (List.replicate 32 (V8 0)).toArray (by omega))
        have b2 := Lib.hid ((K1.out.setRow (List.replicate 32 (V8 0)).toArray).setRow_other (w.heap.size + 1 + 1) (List.replicate 32 (V8 0)).toArray (by omega))
        go_wp2_with (first | ((with_reducible refine at_st 23 (.tmp 8) (.tmp 33) ?_); refine wpList_store_row rfl 23 (.tmp 8) (.tmp 33) rfl (w.heap.size + 1) (List.replicate 32 (V8 0)).toArray rfl rfl 23 _ K1.out infZR rfl oneZ ?_) | ((with_reducible refine at_st 23 (.tmp 9) (.tmp 34) ?_); refine wpList_store_row rfl 23 (.tmp 9) (.tmp 34) rfl (w.heap.size + 1 + 1) (List.replicate 32 (V8 0)).toArray rfl rfl 23 _ b1.out infZR rfl oneZ ?_))
        exact bodyPost_ret (v := .tuple #[Dv zd, Dv zd, .int .i64 35]) (results_rrt rfl _ _ (w.heap.size + 1) (w.heap.size + 1 + 1) 23 _ _ _ _ _ _ rfl rfl rfl (b2.out) (setRow_heap _ _ _ _ _ _ b1.out) hu.out rfl infZR infZR) rfl ⟨rfl, below_setRow (below_setRow K3.out (by omega) _) (by omega) _⟩
    · rw [if_neg hm0]
      have hm1 : ¬ ((nm : Int) = 0) := by omega
      have hm2 : (0 : Int) < (nm : Int) := by omega
      have hrl := pext_length nn old nm nn true path (Nat.le_refl _) hlf hV.all
      have hcl := fun h v w hV => extendsR_any nn old nm nn true path v w hlf (Nat.le_refl _) (by omega) (by omega) (by omega) h hV
      have hlg := fun w => extended_any nn nm nn true w (Nat.le_refl _) (by omega) (by omega) (by omega)
      have hpl := pexl_le nn nm nn true (Nat.le_refl _)
      generalize pext old nm nn true path = rr at *
      obtain ⟨ra, rb, ok⟩ := rr
      simp only at hrl hcl ⊢
      obtain ⟨lra, hRA, -, hral, hrao⟩ := v8_list ra hrl.1
      obtain ⟨lrb, hRB, -, hrbl, hrbo⟩ := v8_list rb hrl.2
      have HRA := Lib.hid hRA; have HRB := Lib.hid hRB
      have lra_HI := Lib.hid (inf_size infR32 lra hral); have lra_HS := Lib.hid (st_size lra hral); have lra_HO := Lib.hid (all_oneCell_toArray hrao)
      have lrb_HI := Lib.hid (inf_size infR32 lrb hrbl); have lrb_HS := Lib.hid (st_size lrb hrbl); have lrb_HO := Lib.hid (all_oneCell_toArray hrbo)
      have lra_LI := Lib.hid (show (Tryd.prog.info? 23).map (·.size) = some lra.length by rw [hral]; exact infR32)
      have lrb_LI := Lib.hid (show (Tryd.prog.info? 23).map (·.size) = some lrb.length by rw [hrbl]; exact infR32)
      have HV := Lib.hid hV
      have hsh := hV.shape
      rw [hA] at hcl ⊢
      clear hRA hRB hral hrao hrbl hrbo hA hao hal hV
      obtain ⟨av, cv, rfl⟩ := hsh
      by_cases hl : path.length = pexl nm nn true
      · rw [if_pos hl]
        replace hcl := hcl hl
        show Calls _ _ _ _ fun e w' => e = .returned (.tuple #[Dv ra, Dv rb, .int .i64 0]) ∧ Below w.heap.size w w'
        generalize pexl nm nn true = qq at *
        have hmq : ((path.length : Nat) : Int) = (qq : Int) := by omega
        have HL := Lib.hid hl
        clear hl
        generalize path.length = q at *
        go_enter Tryd.func25, Tryd.ntmps25
        go_upto_region 9 with (go_at_call 54; refine (hlg _).mono ?_; rintro e w1 ⟨rfl, rfl⟩)
        go_wp2_with ((with_reducible refine at_ld 23 (.tmp 4) ?_); refine wpList_load_row rfl 23 (.tmp 4) rfl w.heap.size rfl 23 la.toArray (0, 0) _ K0.out hu.out rfl la_HI.out ?_)
        refine (hcl _ _ (HV.out.below K3.out (Nat.le_refl _))).mono ?_
        rintro e w2 ⟨rfl, hb2⟩
        rw [HRA.out, HRB.out]
        have q1 := K1.out.below hb2 K1.out.lt
        have q2 := K2.out.below hb2 K2.out.lt
        have qB := K3.out.trans (hb2.mono K3.out.size)
        clear hb2 hcl
        have s1 := q1.setRow lra.toArray
        have s2 := q2.setRow_other (w.heap.size + 1) lra.toArray (by omega)
        have t1 := s1.setRow_other (w.heap.size + 1 + 1) lrb.toArray (by omega)
        have t2 := s2.setRow lrb.toArray
        have tB : Below w.heap.size w ((w2.setRow (w.heap.size + 1) lra.toArray).setRow (w.heap.size + 1 + 1) lrb.toArray) := below_setRow (below_setRow qB (by omega) _) (by omega) _
        go_upto_region 10 with (first | ((with_reducible refine at_st 23 (.tmp 8) (.tmp 51) ?_); refine wpList_store_row rfl 23 (.tmp 8) (.tmp 51) rfl (w.heap.size + 1) lra.toArray rfl rfl 23 _ q1 lra_HI.out lra_HS.out lra_HO.out ?_) | ((with_reducible refine at_st 23 (.tmp 9) (.tmp 52) ?_); refine wpList_store_row rfl 23 (.tmp 9) (.tmp 52) rfl (w.heap.size + 1 + 1) lrb.toArray rfl rfl 23 _ s2 lrb_HI.out lrb_HS.out lrb_HO.out ?_))
        change Code.wp _ _ _ _ ((w2.setRow (w.heap.size + 1) lra.toArray).setRow (w.heap.size + 1 + 1) lrb.toArray)
        change Arr ((w2.setRow (w.heap.size + 1) lra.toArray).setRow (w.heap.size + 1 + 1) lrb.toArray) (w.heap.size + 1) 23 lra at t1
        change Arr ((w2.setRow (w.heap.size + 1) lra.toArray).setRow (w.heap.size + 1 + 1) lrb.toArray) (w.heap.size + 1 + 1) 23 lrb at t2
        clear q1 q2 qB s1 s2
        generalize (w2.setRow (w.heap.size + 1) lra.toArray).setRow (w.heap.size + 1 + 1) lrb.toArray = w3 at *
        go_upto_region 10 with (fail)
        have g1 := t1.range; have g2 := t2.range
        have l1 := t1.lt; have l2 := t2.lt
        refine wp_region_class 4 [2, 3] [0, 1, 2, 3] (Below w3.heap.size w3) (Stable.below w3) (Below.refl _ _).drew (by kernel_rfl) (by kernel_rfl) ?_
        simp only [opsOf, List.getElem?_cons_succ, List.getElem?_cons_zero, List.drop_succ_cons, List.drop_zero]
        refine wpL_val (.agg lra.toArray) rfl (by rfl) (fun wq hq => quiet_ld 23 _ rfl _ _ rfl lra _ (range_below g1 hq l1) hu.out rfl lra_LI.out) ?_
        try simp only [Act.put, List.setIfInBounds_toArray, List.set_cons_zero, List.set_cons_succ]
        refine wpL_val (.agg lrb.toArray) rfl (by rfl) (fun wq hq => quiet_ld 23 _ rfl _ _ rfl lrb _ (range_below g2 hq l2) hu.out rfl lrb_LI.out) ?_
        try simp only [Act.put, List.setIfInBounds_toArray, List.set_cons_zero, List.set_cons_succ]
        refine wpL_store rfl (by rfl) 23 (.tmp 8) (.tmp 53) rfl (w.heap.size + 1) lra.toArray rfl rfl 23 _ (fun wq hq => t1.below hq t1.lt) lra_HI.out rfl lra_HO.out (Stable.below _) (fun wq hq => below_again hq t1) ?_
        try simp only [Act.put, List.setIfInBounds_toArray, List.set_cons_zero, List.set_cons_succ]
        refine wpL_store rfl (by rfl) 23 (.tmp 9) (.tmp 54) rfl (w.heap.size + 1 + 1) lrb.toArray rfl rfl 23 _ (fun wq hq => t2.below (below_two t1 hq) t2.lt) lrb_HI.out rfl lrb_HO.out (Stable.below _) (fun wq hq => below_again (below_two t1 hq) t2) ?_
        try simp only [Act.put, List.setIfInBounds_toArray, List.set_cons_zero, List.set_cons_succ]
        refine wpL_nil ?_
        intro wt hwt
        have hwt2 := below_two2 t1 t2 hwt
        have z1 := t1.below hwt2 t1.lt
        have z2 := t2.below hwt2 t2.lt
        have zB := tB.trans (hwt2.mono (by have := tB.size; omega))
        clear hwt
        go_wp2_with fail
        exact bodyPost_ret (v := .tuple #[.agg lra.toArray, .agg lrb.toArray, .int .i64 0]) (results_rrt rfl _ _ (w.heap.size + 1) (w.heap.size + 1 + 1) 23 _ _ _ _ _ _ rfl rfl rfl (z1) (z2) hu.out rfl lra_HI.out lrb_HI.out) rfl ⟨by simp only [HRA.out, HRB.out], zB⟩
      · rw [if_neg hl]
        clear hcl
        show Calls _ _ _ _ fun e w' => e = .returned (.tuple #[Dv zd, Dv zd, .int .i64 35]) ∧ Below w.heap.size w w'
        generalize pexl nm nn true = qq at *
        have hmq : ¬ ((path.length : Nat) : Int) = (qq : Int) := by omega
        have HL := Lib.hid hl
        clear hl
        generalize path.length = q at *
        go_enter Tryd.func25, Tryd.ntmps25
        have b1 := Lib.hid (K2.out.setRow_other (w.heap.size + 1) (List.replicate 32 (V8 0)).toArray (by omega))
        have b2 := Lib.hid ((K1.out.setRow (List.replicate 32 (V8 0)).toArray).setRow_other (w.heap.size + 1 + 1) (List.replicate 32 (V8 0)).toArray (by omega))
        go_wp2_with (first | (go_at_call 54; refine (hlg _).mono ?_; rintro e w1 ⟨rfl, rfl⟩) | ((with_reducible refine at_st 23 (.tmp 8) (.tmp 43) ?_); refine wpList_store_row rfl 23 (.tmp 8) (.tmp 43) rfl (w.heap.size + 1) (List.replicate 32 (V8 0)).toArray rfl rfl 23 _ K1.out infZR rfl oneZ ?_) | ((with_reducible refine at_st 23 (.tmp 9) (.tmp 44) ?_); refine wpList_store_row rfl 23 (.tmp 9) (.tmp 44) rfl (w.heap.size + 1 + 1) (List.replicate 32 (V8 0)).toArray rfl rfl 23 _ b1.out infZR rfl oneZ ?_))
        exact bodyPost_ret (v := .tuple #[Dv zd, Dv zd, .int .i64 35]) (results_rrt rfl _ _ (w.heap.size + 1) (w.heap.size + 1 + 1) 23 _ _ _ _ _ _ rfl rfl rfl (b2.out) (setRow_heap _ _ _ _ _ _ b1.out) hu.out rfl infZR infZR) rfl ⟨rfl, below_setRow (below_setRow K3.out (by omega) _) (by omega) _⟩
end Go.Proofs.YteehpfccegnjjaaDoor
