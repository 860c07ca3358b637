/-
  The contracts of logtree.From and of the reference's.
-/
import Derived.Test.YteehpfccegnjjaaDoorClimb
namespace Go.Proofs.YteehpfccegnjjaaDoor
open Go Go.RowKit
/-- What From answers. -/
def fromS (leaf : List UInt8) (i n : Int) (path : List (List UInt8)) : List UInt8 × Int :=
  if n < 1 ∨ 1048576 < n ∨ i < 0 ∨ n ≤ i then (zd, 2) else if path.length = plong i.toNat n.toNat then (pfrom leaf i.toNat n.toNat path, 0) else (zd, 35)
theorem fromS_length (leaf : List UInt8) (hl : leaf.length = 32) (i n : Int) (path : List (List UInt8)) : (fromS leaf i n path).1.length = 32 := by
  unfold fromS
  split
  · rfl
  · split
    · exact pfrom_length _ hl _ _ _
    · rfl
theorem infZR : (Tryd.prog.info? 23).map (·.size) = some (List.replicate 32 (V8 0)).toArray.size := by kernel_rfl
set_option maxRecDepth 100000 in
set_option linter.unusedSimpArgs false in
set_option maxHeartbeats 1000000 in
theorem from_any (leaf : List UInt8) (i n : Int) (path : List (List UInt8)) (v : Value) (w : World) (hlf : leaf.length = 32) (hlen : path.length ≤ 30) (hV : Digs w v path) (hK : KT w) :
    Calls Tryd.prog 22 #[Dv leaf, .int .i64 i, .int .i64 n, v] w fun e w' => e = .returned (.tuple #[Dv (fromS leaf i n path).1, .int .i64 (fromS leaf i n path).2]) ∧ Below w.heap.size w w' := by
  obtain ⟨la, hA, -, hal, hao⟩ := v8_list leaf hlf
  have HA := Lib.hid hA
  have hu := Lib.hid Tryd.underlying24
  have HI := Lib.hid (inf_size infD32 la hal)
  have h0 := Lib.hid (arr2 w 24 24 la (List.replicate 32 (V8 0)))
  by_cases hbad : n < 1 ∨ 1048576 < n ∨ i < 0 ∨ n ≤ i
  · have e : fromS leaf i n path = (zd, 2) := by unfold fromS; rw [if_pos hbad]
    rw [e, hA]
    clear e hA hao hal hlen
    show Calls _ _ _ _ fun e w' => e = .returned (.tuple #[Dv zd, .int .i64 2]) ∧ Below w.heap.size w w'
    by_cases b1 : n < 1
    · have c1 : decide (n < 1) = true := decide_eq_true b1
      obtain ⟨av, cv, rfl⟩ := hV.shape
      clear hV
      go_enter Tryd.func22, Tryd.ntmps22
      go_wp2_with ((with_reducible refine at_st 24 (.tmp 8) (.tmp 28) ?_); refine wpList_store_row rfl 24 (.tmp 8) (.tmp 28) rfl (w.heap.size + 1) (List.replicate 32 (V8 0)).toArray rfl rfl 24 _ h0.out.2.1 infZ rfl oneZ ?_)
      exact bodyPost_ret (v := .tuple #[Dv zd, .int .i64 2]) (results_row_tmp rfl _ _ (w.heap.size + 1) 24 _ _ _ _ rfl rfl (setRow_heap _ _ _ _ _ _ h0.out.2.1) hu.out rfl infZ) rfl ⟨rfl, below_setRow h0.out.2.2 (by omega) _⟩
    · have c1 : decide (n < 1) = false := decide_eq_false b1
      by_cases b2 : 1048576 < n
      · have c2 : decide (1048576 < n) = true := decide_eq_true b2
        obtain ⟨av, cv, rfl⟩ := hV.shape
        clear hV
        go_enter Tryd.func22, Tryd.ntmps22
        go_wp2_with ((with_reducible refine at_st 24 (.tmp 8) (.tmp 28) ?_); refine wpList_store_row rfl 24 (.tmp 8) (.tmp 28) rfl (w.heap.size + 1) (List.replicate 32 (V8 0)).toArray rfl rfl 24 _ h0.out.2.1 infZ rfl oneZ ?_)
        exact bodyPost_ret (v := .tuple #[Dv zd, .int .i64 2]) (results_row_tmp rfl _ _ (w.heap.size + 1) 24 _ _ _ _ rfl rfl (setRow_heap _ _ _ _ _ _ h0.out.2.1) hu.out rfl infZ) rfl ⟨rfl, below_setRow h0.out.2.2 (by omega) _⟩
      · have c2 : decide (1048576 < n) = false := decide_eq_false b2
        by_cases b3 : i < 0
        · have c3 : decide (i < 0) = true := decide_eq_true b3
          obtain ⟨av, cv, rfl⟩ := hV.shape
          clear hV
          go_enter Tryd.func22, Tryd.ntmps22
          go_wp2_with ((with_reducible refine at_st 24 (.tmp 8) (.tmp 28) ?_); refine wpList_store_row rfl 24 (.tmp 8) (.tmp 28) rfl (w.heap.size + 1) (List.replicate 32 (V8 0)).toArray rfl rfl 24 _ h0.out.2.1 infZ rfl oneZ ?_)
          exact bodyPost_ret (v := .tuple #[Dv zd, .int .i64 2]) (results_row_tmp rfl _ _ (w.heap.size + 1) 24 _ _ _ _ rfl rfl (setRow_heap _ _ _ _ _ _ h0.out.2.1) hu.out rfl infZ) rfl ⟨rfl, below_setRow h0.out.2.2 (by omega) _⟩
        · have c3 : decide (i < 0) = false := decide_eq_false b3
          have b4 : n ≤ i := by omega
          have c4 : decide (n ≤ i) = true := decide_eq_true b4
          obtain ⟨av, cv, rfl⟩ := hV.shape
          clear hV
          go_enter Tryd.func22, Tryd.ntmps22
          go_wp2_with ((with_reducible refine at_st 24 (.tmp 8) (.tmp 28) ?_); refine wpList_store_row rfl 24 (.tmp 8) (.tmp 28) rfl (w.heap.size + 1) (List.replicate 32 (V8 0)).toArray rfl rfl 24 _ h0.out.2.1 infZ rfl oneZ ?_)
          exact bodyPost_ret (v := .tuple #[Dv zd, .int .i64 2]) (results_row_tmp rfl _ _ (w.heap.size + 1) 24 _ _ _ _ rfl rfl (setRow_heap _ _ _ _ _ _ h0.out.2.1) hu.out rfl infZ) rfl ⟨rfl, below_setRow h0.out.2.2 (by omega) _⟩
  · have hg : 1 ≤ n ∧ n ≤ 1048576 ∧ 0 ≤ i ∧ i < n := by omega
    obtain ⟨g1, g2, g3, g4⟩ := hg
    obtain ⟨ni, rfl⟩ : ∃ k : Nat, i = k := ⟨i.toNat, by omega⟩
    obtain ⟨nn, rfl⟩ : ∃ k : Nat, n = k := ⟨n.toNat, by omega⟩
    have c1 : decide ((nn : Int) < 1) = false := decide_eq_false (by omega)
    have c2 : decide ((1048576 : Int) < (nn : Int)) = false := decide_eq_false (by omega)
    have c3 : decide ((ni : Int) < 0) = false := decide_eq_false (by omega)
    have c4 : decide ((nn : Int) ≤ (ni : Int)) = false := decide_eq_false (by omega)
    have e : fromS leaf ni nn path = if path.length = plong ni nn then (pfrom leaf ni nn path, 0) else (zd, 35) := by
      unfold fromS
      rw [if_neg hbad]
      simp only [Int.toNat_natCast]
    have hcl := fun v w hV hK => climb_any nn leaf ni nn path v w hlf (Nat.le_refl _) (by omega) (by omega) (by omega) hlen hV hK
    have hcf := climb_from nn leaf ni nn path (Nat.le_refl _) (by omega)
    have hrl := pclimb_length leaf hlf ni nn path
    rw [hA] at hcl ⊢
    have HV := Lib.hid hV
    have Hk := Lib.hid hK
    have hsh := hV.shape
    have hbb : Below w.heap.size w ((w.alloc (.cells la.toArray 24)).alloc (.cells (List.replicate 32 (V8 0)).toArray 24)) := h0.out.2.2
    have HB0 := Lib.hid hbb
    clear hA hao hal hV hK hbb
    generalize pclimb leaf ni nn path = rr at *
    obtain ⟨pl, r, wr⟩ := rr
    simp only at hcl hcf hrl
    obtain ⟨lr, hRR, -, hlrl, hlro⟩ := v8_list r hrl
    have HR2 := Lib.hid hRR
    have HRI := Lib.hid (inf_size infD32 lr hlrl); have HRS := Lib.hid (st_size lr hlrl); have HRO := Lib.hid (all_oneCell_toArray hlro)
    clear hRR hlrl hlro
    obtain ⟨av, cv, rfl⟩ := hsh
    by_cases hl : path.length = plong ni nn
    · have e1 := hcf.1 hl
      simp only [Prod.mk.injEq] at e1
      obtain ⟨e2, rfl⟩ := e1
      rw [e, if_pos hl, ← e2]
      clear hcf e e2 hl
      show Calls _ _ _ _ fun e w' => e = .returned (.tuple #[Dv r, .int .i64 0]) ∧ Below w.heap.size w w'
      generalize path.length = m at *
      go_enter Tryd.func22, Tryd.ntmps22
      go_wp2_with ((with_reducible refine at_ld 24 (.tmp 4) ?_); refine wpList_load_row rfl 24 (.tmp 4) rfl w.heap.size rfl 24 la.toArray (0, 0) _ h0.out.1 hu.out rfl HI.out ?_)
      refine (hcl _ _ (HV.out.below HB0.out (Nat.le_refl _)) (Hk.out.below HB0.out (Nat.le_refl _))).mono ?_
      rintro e w2 ⟨v2, rfl, hO2, hb2⟩
      rw [HR2.out]
      have q2 := h0.out.2.1.below hb2 h0.out.2.1.lt
      have qB := HB0.out.trans (hb2.mono HB0.out.size)
      have hlt := q2.lt
      have h6 := Lib.hid (one_var w2 24 lr)
      obtain ⟨a2, c2', rfl⟩ := hO2.shape
      have s1 := Lib.hid (q2.below h6.out.2.2.1 q2.lt)
      have s2 := Lib.hid (h6.out.2.1)
      have sB := Lib.hid (qB.trans (h6.out.2.2.1.mono qB.size))
      clear hO2 hb2 q2 qB h0 hcl
      go_wp2_with (first | ((with_reducible refine at_st 24 (.tmp 11) (.tmp 36) ?_); refine wpList_store_row rfl 24 (.tmp 11) (.tmp 36) rfl w2.heap.size lr.toArray rfl rfl 24 _ h6.out.1 HRI.out HRS.out HRO.out ?_) | ((with_reducible refine at_ld 24 (.tmp 11) ?_); refine wpList_load_row rfl 24 (.tmp 11) rfl w2.heap.size rfl 24 lr.toArray (0, 0) _ s2.out hu.out rfl HRI.out ?_) | ((with_reducible refine at_st 24 (.tmp 8) (.tmp 40) ?_); refine wpList_store_row rfl 24 (.tmp 8) (.tmp 40) rfl (w.heap.size + 1) lr.toArray rfl rfl 24 _ s1.out HRI.out HRS.out HRO.out ?_))
      exact bodyPost_ret (v := .tuple #[.agg lr.toArray, .int .i64 0]) (results_row_tmp rfl _ _ (w.heap.size + 1) 24 _ _ _ _ rfl rfl (setRow_heap _ _ _ _ _ _ s1.out) hu.out rfl HRI.out) rfl ⟨by rw [HR2.out], below_setRow sB.out (by omega) _⟩
    · have e1 := hcf.2 hl
      subst e1
      rw [e, if_neg hl]
      clear hcf e hl
      show Calls _ _ _ _ fun e w' => e = .returned (.tuple #[Dv zd, .int .i64 35]) ∧ Below w.heap.size w w'
      generalize path.length = m at *
      go_enter Tryd.func22, Tryd.ntmps22
      go_wp2_with ((with_reducible refine at_ld 24 (.tmp 4) ?_); refine wpList_load_row rfl 24 (.tmp 4) rfl w.heap.size rfl 24 la.toArray (0, 0) _ h0.out.1 hu.out rfl HI.out ?_)
      refine (hcl _ _ (HV.out.below HB0.out (Nat.le_refl _)) (Hk.out.below HB0.out (Nat.le_refl _))).mono ?_
      rintro e w2 ⟨v2, rfl, hO2, hb2⟩
      rw [HR2.out]
      have q2 := h0.out.2.1.below hb2 h0.out.2.1.lt
      have qB := HB0.out.trans (hb2.mono HB0.out.size)
      have hlt := q2.lt
      have h6 := Lib.hid (one_var w2 24 lr)
      obtain ⟨a2, c2', rfl⟩ := hO2.shape
      have s1 := Lib.hid (q2.below h6.out.2.2.1 q2.lt)
      have sB := Lib.hid (qB.trans (h6.out.2.2.1.mono qB.size))
      clear hO2 hb2 q2 qB h0 hcl
      go_wp2_with (first | ((with_reducible refine at_st 24 (.tmp 11) (.tmp 36) ?_); refine wpList_store_row rfl 24 (.tmp 11) (.tmp 36) rfl w2.heap.size lr.toArray rfl rfl 24 _ h6.out.1 HRI.out HRS.out HRO.out ?_) | ((with_reducible refine at_st 24 (.tmp 8) (.tmp 39) ?_); refine wpList_store_row rfl 24 (.tmp 8) (.tmp 39) rfl (w.heap.size + 1) (List.replicate 32 (V8 0)).toArray rfl rfl 24 _ s1.out infZ rfl oneZ ?_))
      exact bodyPost_ret (v := .tuple #[Dv zd, .int .i64 35]) (results_row_tmp rfl _ _ (w.heap.size + 1) 24 _ _ _ _ rfl rfl (setRow_heap _ _ _ _ _ _ s1.out) hu.out rfl infZ) rfl ⟨rfl, below_setRow sB.out (by omega) _⟩
set_option maxRecDepth 100000 in
set_option linter.unusedSimpArgs false in
set_option maxHeartbeats 1000000 in
theorem fromRS_any (leaf : List UInt8) (i n : Int) (path : List (List UInt8)) (v : Value) (w : World) (hlf : leaf.length = 32) (hV : Digs w v path) :
    Calls Tryd.prog 23 #[Dv leaf, .int .i64 i, .int .i64 n, v] w fun e w' => e = .returned (.tuple #[Dv (fromS leaf i n path).1, .int .i64 (fromS leaf i n path).2]) ∧ Below w.heap.size w w' := by
  obtain ⟨la, hA, -, hal, hao⟩ := v8_list leaf hlf
  have HA := Lib.hid hA
  have hu := Lib.hid Tryd.underlying23
  have HI := Lib.hid (inf_size infR32 la hal)
  have h0 := Lib.hid (arr2 w 23 23 la (List.replicate 32 (V8 0)))
  by_cases hbad : n < 1 ∨ 1048576 < n ∨ i < 0 ∨ n ≤ i
  · have e : fromS leaf i n path = (zd, 2) := by unfold fromS; rw [if_pos hbad]
    rw [e, hA]
    clear e hA hao hal
    show Calls _ _ _ _ fun e w' => e = .returned (.tuple #[Dv zd, .int .i64 2]) ∧ Below w.heap.size w w'
    by_cases b1 : n < 1
    · have c1 : decide (n < 1) = true := decide_eq_true b1
      obtain ⟨av, cv, rfl⟩ := hV.shape
      clear hV
      go_enter Tryd.func23, Tryd.ntmps23
      go_wp2_with ((with_reducible refine at_st 23 (.tmp 8) (.tmp 25) ?_); refine wpList_store_row rfl 23 (.tmp 8) (.tmp 25) rfl (w.heap.size + 1) (List.replicate 32 (V8 0)).toArray rfl rfl 23 _ h0.out.2.1 infZR rfl oneZ ?_)
      exact bodyPost_ret (v := .tuple #[Dv zd, .int .i64 2]) (results_row_tmp rfl _ _ (w.heap.size + 1) 23 _ _ _ _ rfl rfl (setRow_heap _ _ _ _ _ _ h0.out.2.1) hu.out rfl infZR) rfl ⟨rfl, below_setRow h0.out.2.2 (by omega) _⟩
    · have c1 : decide (n < 1) = false := decide_eq_false b1
      by_cases b2 : 1048576 < n
      · have c2 : decide (1048576 < n) = true := decide_eq_true b2
        obtain ⟨av, cv, rfl⟩ := hV.shape
        clear hV
        go_enter Tryd.func23, Tryd.ntmps23
        go_wp2_with ((with_reducible refine at_st 23 (.tmp 8) (.tmp 25) ?_); refine wpList_store_row rfl 23 (.tmp 8) (.tmp 25) rfl (w.heap.size + 1) (List.replicate 32 (V8 0)).toArray rfl rfl 23 _ h0.out.2.1 infZR rfl oneZ ?_)
        exact bodyPost_ret (v := .tuple #[Dv zd, .int .i64 2]) (results_row_tmp rfl _ _ (w.heap.size + 1) 23 _ _ _ _ rfl rfl (setRow_heap _ _ _ _ _ _ h0.out.2.1) hu.out rfl infZR) rfl ⟨rfl, below_setRow h0.out.2.2 (by omega) _⟩
      · have c2 : decide (1048576 < n) = false := decide_eq_false b2
        by_cases b3 : i < 0
        · have c3 : decide (i < 0) = true := decide_eq_true b3
          obtain ⟨av, cv, rfl⟩ := hV.shape
          clear hV
          go_enter Tryd.func23, Tryd.ntmps23
          go_wp2_with ((with_reducible refine at_st 23 (.tmp 8) (.tmp 25) ?_); refine wpList_store_row rfl 23 (.tmp 8) (.tmp 25) rfl (w.heap.size + 1) (List.replicate 32 (V8 0)).toArray rfl rfl 23 _ h0.out.2.1 infZR rfl oneZ ?_)
          exact bodyPost_ret (v := .tuple #[Dv zd, .int .i64 2]) (results_row_tmp rfl _ _ (w.heap.size + 1) 23 _ _ _ _ rfl rfl (setRow_heap _ _ _ _ _ _ h0.out.2.1) hu.out rfl infZR) rfl ⟨rfl, below_setRow h0.out.2.2 (by omega) _⟩
        · have c3 : decide (i < 0) = false := decide_eq_false b3
          have b4 : n ≤ i := by omega
          have c4 : decide (n ≤ i) = true := decide_eq_true b4
          obtain ⟨av, cv, rfl⟩ := hV.shape
          clear hV
          go_enter Tryd.func23, Tryd.ntmps23
          go_wp2_with ((with_reducible refine at_st 23 (.tmp 8) (.tmp 25) ?_); refine wpList_store_row rfl 23 (.tmp 8) (.tmp 25) rfl (w.heap.size + 1) (List.replicate 32 (V8 0)).toArray rfl rfl 23 _ h0.out.2.1 infZR rfl oneZ ?_)
          exact bodyPost_ret (v := .tuple #[Dv zd, .int .i64 2]) (results_row_tmp rfl _ _ (w.heap.size + 1) 23 _ _ _ _ rfl rfl (setRow_heap _ _ _ _ _ _ h0.out.2.1) hu.out rfl infZR) rfl ⟨rfl, below_setRow h0.out.2.2 (by omega) _⟩
  · have hg : 1 ≤ n ∧ n ≤ 1048576 ∧ 0 ≤ i ∧ i < n := by omega
    obtain ⟨g1, g2, g3, g4⟩ := hg
    obtain ⟨ni, rfl⟩ : ∃ k : Nat, i = k := ⟨i.toNat, by omega⟩
    obtain ⟨nn, rfl⟩ : ∃ k : Nat, n = k := ⟨n.toNat, by omega⟩
    have c1 : decide ((nn : Int) < 1) = false := decide_eq_false (by omega)
    have c2 : decide ((1048576 : Int) < (nn : Int)) = false := decide_eq_false (by omega)
    have c3 : decide ((ni : Int) < 0) = false := decide_eq_false (by omega)
    have c4 : decide ((nn : Int) ≤ (ni : Int)) = false := decide_eq_false (by omega)
    have e : fromS leaf ni nn path = if path.length = plong ni nn then (pfrom leaf ni nn path, 0) else (zd, 35) := by
      unfold fromS
      rw [if_neg hbad]
      simp only [Int.toNat_natCast]
    have hcl := fun h v w hV => fromR_any nn leaf ni nn path v w hlf (Nat.le_refl _) (by omega) (by omega) (by omega) h hV
    have hrl := pfrom_length leaf hlf ni nn path
    have hlg := fun w => long_any nn ni nn w (Nat.le_refl _) (by omega) (by omega) (by omega)
    have hpl := plong_lt nn ni nn (Nat.le_refl _) (by omega)
    rw [hA] at hcl ⊢
    have HV := Lib.hid hV
    have hsh := hV.shape
    have hbb : Below w.heap.size w ((w.alloc (.cells la.toArray 23)).alloc (.cells (List.replicate 32 (V8 0)).toArray 23)) := h0.out.2.2
    have HB0 := Lib.hid hbb
    clear hA hao hal hV hbb
    generalize pfrom leaf ni nn path = r at *
    obtain ⟨lr, hRR, -, hlrl, hlro⟩ := v8_list r hrl
    have HR2 := Lib.hid hRR
    have HRI := Lib.hid (inf_size infR32 lr hlrl); have HRS := Lib.hid (st_size lr hlrl); have HRO := Lib.hid (all_oneCell_toArray hlro)
    clear hRR hlrl hlro
    obtain ⟨av, cv, rfl⟩ := hsh
    by_cases hl : path.length = plong ni nn
    · rw [e, if_pos hl]
      replace hcl := hcl hl
      show Calls _ _ _ _ fun e w' => e = .returned (.tuple #[Dv r, .int .i64 0]) ∧ Below w.heap.size w w'
      generalize plong ni nn = q at *
      have hm := Lib.hid hl
      have hmq : ((path.length : Nat) : Int) = (q : Int) := by omega
      clear e hl
      generalize path.length = m at *
      go_enter Tryd.func23, Tryd.ntmps23
      go_wp2_with (first | (go_at_call 51; refine (hlg _).mono ?_; rintro e w1 ⟨⟨rfl, -⟩, rfl⟩) | ((with_reducible refine at_ld 23 (.tmp 4) ?_); refine wpList_load_row rfl 23 (.tmp 4) rfl w.heap.size rfl 23 la.toArray (0, 0) _ h0.out.1 hu.out rfl HI.out ?_))
      refine (hcl _ _ (HV.out.below HB0.out (Nat.le_refl _))).mono ?_
      rintro e w2 ⟨rfl, hb2⟩
      rw [HR2.out]
      have q2 := h0.out.2.1.below hb2 h0.out.2.1.lt
      have qB := HB0.out.trans (hb2.mono HB0.out.size)
      have hlt := q2.lt
      clear hb2 h0 hcl
      go_wp2_with ((with_reducible refine at_st 23 (.tmp 8) (.tmp 37) ?_); refine wpList_store_row rfl 23 (.tmp 8) (.tmp 37) rfl (w.heap.size + 1) lr.toArray rfl rfl 23 _ q2 HRI.out HRS.out HRO.out ?_)
      exact bodyPost_ret (v := .tuple #[.agg lr.toArray, .int .i64 0]) (results_row_tmp rfl _ _ (w.heap.size + 1) 23 _ _ _ _ rfl rfl (setRow_heap _ _ _ _ _ _ q2) hu.out rfl HRI.out) rfl ⟨by rw [HR2.out], below_setRow qB (by omega) _⟩
    · rw [e, if_neg hl]
      show Calls _ _ _ _ fun e w' => e = .returned (.tuple #[Dv zd, .int .i64 35]) ∧ Below w.heap.size w w'
      generalize plong ni nn = q at *
      have hmq : ¬ ((path.length : Nat) : Int) = (q : Int) := by omega
      have HQ := Lib.hid hl
      clear e hl hcl
      generalize path.length = m at *
      go_enter Tryd.func23, Tryd.ntmps23
      go_wp2_with (first | (go_at_call 51; refine (hlg _).mono ?_; rintro e w1 ⟨⟨rfl, -⟩, rfl⟩) | ((with_reducible refine at_st 23 (.tmp 8) (.tmp 32) ?_); refine wpList_store_row rfl 23 (.tmp 8) (.tmp 32) rfl (w.heap.size + 1) (List.replicate 32 (V8 0)).toArray rfl rfl 23 _ h0.out.2.1 infZR rfl oneZ ?_))
      exact bodyPost_ret (v := .tuple #[Dv zd, .int .i64 35]) (results_row_tmp rfl _ _ (w.heap.size + 1) 23 _ _ _ _ rfl rfl (setRow_heap _ _ _ _ _ _ h0.out.2.1) hu.out rfl infZR) rfl ⟨rfl, below_setRow h0.out.2.2 (by omega) _⟩
end Go.Proofs.YteehpfccegnjjaaDoor
