/-
  The contract of logtree.climb.
-/
import Derived.Test.YteehpfccegnjjaaDoorClimbA
import Derived.Test.YteehpfccegnjjaaDoorNil
namespace Go.Proofs.YteehpfccegnjjaaDoor
open Go Go.RowKit
abbrev Pairs := List (List UInt8 × List UInt8)
def pcells (l : Pairs) : List Value := l.flatMap fun p => p.1.map V8 ++ p.2.map V8
def pclimb (leaf : List UInt8) (i n : Nat) (path : List (List UInt8)) : Pairs × List UInt8 × Bool :=
  if 2 ≤ n then
    if path.length = 0 then ([], zd, true)
    else if i < lp n then
      let r := pclimb leaf i (lp n) (path.take (path.length - 1))
      (r.1 ++ [(r.2.1, path.getD (path.length - 1) [])], Sha.node r.2.1 (path.getD (path.length - 1) []), r.2.2)
    else
      let r := pclimb leaf (i - lp n) (n - lp n) (path.take (path.length - 1))
      (r.1 ++ [(path.getD (path.length - 1) [], r.2.1)], Sha.node (path.getD (path.length - 1) []) r.2.1, r.2.2)
  else ([], leaf, decide (0 < path.length))
termination_by n
decreasing_by
  · exact lp_lt n ‹_›
  · have := lp_pos n; omega
theorem pclimb_length (leaf : List UInt8) (hl : leaf.length = 32) (i n : Nat) (path : List (List UInt8)) : (pclimb leaf i n path).2.1.length = 32 := by
  rw [pclimb]
  split
  · split
    · exact zd_len
    · split <;> exact Sha.node_length _ _
  · exact hl
theorem pclimb_count (N : Nat) : ∀ (leaf : List UInt8) (i n : Nat) (path : List (List UInt8)), n ≤ N → (pclimb leaf i n path).1.length ≤ n := by
  induction N with
  | zero => intro leaf i n path h; rw [pclimb, if_neg (by omega)]; simp
  | succ N ih =>
    intro leaf i n path hN
    rw [pclimb]
    split
    · rename_i h2
      have hp1 := lp_pos n
      have hp2 := lp_lt n h2
      split
      · simp
      · split
        · have := ih leaf i (lp n) (path.take (path.length - 1)) (by omega)
          simp; omega
        · have := ih leaf (i - lp n) (n - lp n) (path.take (path.length - 1)) (by omega)
          simp; omega
    · simp
theorem climb_from (N : Nat) : ∀ (leaf : List UInt8) (i n : Nat) (path : List (List UInt8)), n ≤ N → 1 ≤ n →
    (path.length = plong i n → (pclimb leaf i n path).2 = (pfrom leaf i n path, false)) ∧ (path.length ≠ plong i n → (pclimb leaf i n path).2.2 = true) := by
  induction N with
  | zero => intro leaf i n path h1 h2; omega
  | succ N ih =>
    intro leaf i n path hN h1
    rw [pclimb, pfrom, plong]
    by_cases h2 : 2 ≤ n
    · have hp1 := lp_pos n
      have hp2 := lp_lt n h2
      simp only [if_pos h2]
      have htl : (path.take (path.length - 1)).length = path.length - 1 := by rw [List.length_take]; omega
      by_cases h0 : path.length = 0
      · simp only [if_pos h0]
        exact ⟨fun h => absurd (h0.symm.trans h) (by rw [Nat.add_comm]; exact (Nat.succ_ne_zero _).symm), fun _ => by trivial⟩
      · simp only [if_neg h0]
        by_cases hc : i < lp n
        · simp only [if_pos hc]
          obtain ⟨a, b⟩ := ih leaf i (lp n) (path.take (path.length - 1)) (by omega) hp1
          rw [htl] at a b
          exact ⟨fun h => by rw [a (by omega)], fun h => b (by omega)⟩
        · simp only [if_neg hc]
          obtain ⟨a, b⟩ := ih leaf (i - lp n) (n - lp n) (path.take (path.length - 1)) (by omega) (by omega)
          rw [htl] at a b
          exact ⟨fun h => by rw [a (by omega)], fun h => b (by omega)⟩
    · simp only [if_neg h2]
      exact ⟨fun h => by simp [h], fun h => by simpa using Nat.pos_of_ne_zero h⟩

set_option maxRecDepth 100000 in
set_option linter.unusedSimpArgs false in
set_option maxHeartbeats 1000000 in
theorem climb_any (N : Nat) : ∀ (leaf : List UInt8) (i n : Nat) (path : List (List UInt8)) (v : Value) (w : World), leaf.length = 32 → n ≤ N → 1 ≤ n → n ≤ 1048576 → i < n → path.length ≤ 30 → Digs w v path → KT w →
    Calls Tryd.prog 50 #[Dv leaf, .int .i64 i, .int .i64 n, v] w fun e w' => ∃ v', e = .returned (.tuple #[v', Dv (pclimb leaf i n path).2.1, .bool (pclimb leaf i n path).2.2]) ∧
      Own w' w.heap.size 93 64 v' (pclimb leaf i n path).1.length (pcells (pclimb leaf i n path).1) ∧ Below w.heap.size w w' := by
  induction N with
  | zero => intro leaf i n path v w _ h1 h2; omega
  | succ N ih =>
    intro leaf i n path v w hlf hN h1 hmax hi hlen hV hK
    have Hk := Lib.hid hK; clear hK
    obtain ⟨la, hA, -, hal, hao⟩ := v8_list leaf hlf
    obtain ⟨lz, hZ, hzm, hzl, hzo⟩ := v8_list zd zd_len
    have HA := Lib.hid hA; have HZ := Lib.hid hZ
    have hu := Lib.hid Tryd.underlying24
    have HI := Lib.hid (inf_size infD32 la hal)
    have HS := Lib.hid (st_size la hal)
    have HO := Lib.hid (all_oneCell_toArray hao)
    have HZI := Lib.hid (inf_size infD32 lz hzl)
    have hI := Lib.hid (show (Tryd.prog.info? 24).map (·.size) = some la.length by rw [hal]; exact infD32)
    have hZI := Lib.hid (show (Tryd.prog.info? 24).map (·.size) = some lz.length by rw [hzl]; exact infD32)
    have HZS := Lib.hid (st_size lz hzl)
    have HZO := Lib.hid (all_oneCell_toArray hzo)
    have hzeq : List.replicate 32 (V8 0) = lz := by rw [hzm]; rfl
    have h0 := Lib.hid (arr2 w 24 24 la (List.replicate 32 (V8 0)))
    by_cases h2 : n = 1
    · subst h2
      have e : pclimb leaf i 1 path = ([], leaf, decide (0 < path.length)) := by rw [pclimb, if_neg (by omega)]
      rw [e]
      show Calls _ _ _ _ fun e w' => ∃ v', e = .returned (.tuple #[v', Dv leaf, .bool (decide (0 < path.length))]) ∧ Own w' w.heap.size 93 64 v' 0 [] ∧ Below w.heap.size w w'
      rw [hA]
      obtain ⟨av, cv, rfl⟩ := hV.shape
      clear ih hA hao hal hV hZ hzm hzl hzo hzeq e
      generalize path.length = m at *
      go_enter Tryd.func50, Tryd.ntmps50
      go_upto_region 2 with (fail)
      have ⟨k1, k2, k3⟩ := h0.out
      change Code.wp _ _ _ _ ((w.alloc (.cells la.toArray 24)).alloc (.cells (List.replicate 32 (V8 0)).toArray 24))
      have hs0 : ((w.alloc (.cells la.toArray 24)).alloc (.cells (List.replicate 32 (V8 0)).toArray 24)).heap.size = w.heap.size + 1 + 1 := by simp
      clear h0
      generalize (w.alloc (.cells la.toArray 24)).alloc (.cells (List.replicate 32 (V8 0)).toArray 24) = w0 at *
      generalize hAe : w.heap.size = A at *
      have r1 := k1.range
      refine wp_region_class2 6 [5] [0, 1, 2, 3, 4, 5] (Below (A + 1) w0) (Below w0.heap.size w0) (Stable.below _) (fun _ h => h.mono (by omega)) (Below.refl _ _).drew (by kernel_rfl) (by kernel_rfl) ?_
      simp only [opsOf, List.getElem?_cons_succ, List.getElem?_cons_zero, List.drop_succ_cons, List.drop_zero]
      refine wpL_val (.agg la.toArray) rfl (by rfl) (fun wq hq => quiet_ld 24 _ rfl _ _ rfl la _ (range_below r1 hq (by omega)) hu.out rfl hI.out) ?_
      try simp only [Act.put, List.setIfInBounds_toArray, List.set_cons_zero, List.set_cons_succ]
      refine wpL_val ?v3 rfl (by rfl) (fun wq hq => ?y3) ?z3
      case y3 => go_simp; with_reducible rfl
      try simp only [Act.put, List.setIfInBounds_toArray, List.set_cons_zero, List.set_cons_succ]
      refine wpL_val ?v4 rfl (by rfl) (fun wq hq => ?y4) ?z4
      case y4 => go_simp; with_reducible rfl
      try simp only [Act.put, List.setIfInBounds_toArray, List.set_cons_zero, List.set_cons_succ]
      refine wpL_val ?v5 rfl (by rfl) (fun wq hq => ?y5) ?z5
      case y5 => go_simp; with_reducible rfl
      try simp only [Act.put, List.setIfInBounds_toArray, List.set_cons_zero, List.set_cons_succ]
      refine wpL_val ?v6 rfl (by rfl) (fun wq hq => ?y6) ?z6
      case y6 => go_simp; with_reducible rfl
      try simp only [Act.put, List.setIfInBounds_toArray, List.set_cons_zero, List.set_cons_succ]
      refine wpL_store rfl (by rfl) 24 (.tmp 9) (.tmp 17) rfl (A + 1) la.toArray rfl rfl 24 _ (fun wq hq => k2.below hq (by omega)) HI.out HS.out HO.out (Stable.belowAt (by omega)) (fun wq hq => below_setRow (hq.mono (by omega)) (by omega) _) ?_
      try simp only [Act.put, List.setIfInBounds_toArray, List.set_cons_zero, List.set_cons_succ]
      refine wpL_nil ?_
      intro wt hwt
      obtain ⟨wx, hx, hwt⟩ := hwt
      have q2 := ((k2.below hx (by omega)).setRow la.toArray).below hwt (by have := (k2.below hx (by omega)).lt; simpa [World.setRow] using this)
      have qB : Below A w wt := (below_setRow (k3.trans (hx.mono (by omega))) (by omega) _).trans (hwt.mono (by have := hx.size; simp [World.setRow]; omega))
      go_wp2_with fail
      exact bodyPost_ret (v := .tuple #[.slice none 0 0, .agg la.toArray, .bool (decide (0 < m))]) (results_trt rfl _ _ (A + 1) 24 _ _ _ _ _ rfl (by simp) rfl q2 hu.out rfl HI.out) rfl ⟨_, rfl, Own.nil _ _ _ _, by (try rw [hAe]); exact qB⟩
    · have h3 : 2 ≤ n := by omega
      by_cases hm0 : path.length = 0
      · have e : pclimb leaf i n path = ([], zd, true) := by rw [pclimb, if_pos h3, if_pos hm0]
        rw [e]
        show Calls _ _ _ _ fun e w' => ∃ v', e = .returned (.tuple #[v', Dv zd, .bool true]) ∧ Own w' w.heap.size 93 64 v' 0 [] ∧ Below w.heap.size w w'
        rw [hA]
        obtain ⟨av, cv, rfl⟩ := hV.shape
        rw [hm0]
        have hnn : decide ((n : Int) = 1) = false := decide_eq_false (by omega)
        have hn1 : ¬ ((n : Int) = 1) := by omega
        clear ih hA hao hal hV hZ hzm hzl hzo e hlen hm0
        rw [hzeq] at h0
        go_enter Tryd.func50, Tryd.ntmps50
        go_upto_region 4 with (fail)
        have ⟨k1, k2, k3⟩ := h0.out
        have hcw : ((w.alloc (.cells la.toArray 24)).alloc (.cells (List.replicate 32 (V8 0)).toArray 24)) = ((w.alloc (.cells la.toArray 24)).alloc (.cells lz.toArray 24)) := by rw [hzeq]
        change Code.wp _ _ _ _ ((w.alloc (.cells la.toArray 24)).alloc (.cells (List.replicate 32 (V8 0)).toArray 24))
        rw [hcw]
        have hs0 : ((w.alloc (.cells la.toArray 24)).alloc (.cells lz.toArray 24)).heap.size = w.heap.size + 1 + 1 := by simp
        clear h0 hcw
        generalize (w.alloc (.cells la.toArray 24)).alloc (.cells lz.toArray 24) = w0 at *
        generalize hAe : w.heap.size = A at *
        have r2 := k2.range
        refine wp_region_class 2 [] [0, 1] (Below w0.heap.size w0) (Stable.below w0) (Below.refl _ _).drew (by kernel_rfl) (by kernel_rfl) ?_
        simp only [opsOf, List.getElem?_cons_succ, List.getElem?_cons_zero, List.drop_succ_cons, List.drop_zero]
        refine wpL_val (.agg lz.toArray) rfl (by rfl) (fun wq hq => quiet_ld 24 _ rfl _ _ rfl lz _ (range_below r2 hq (by omega)) hu.out rfl hZI.out) ?_
        try simp only [Act.put, List.setIfInBounds_toArray, List.set_cons_zero, List.set_cons_succ]
        refine wpL_val ?v10 rfl (by rfl) (fun wq hq => ?y10) ?z10
        case y10 => go_simp; with_reducible rfl
        try simp only [Act.put, List.setIfInBounds_toArray, List.set_cons_zero, List.set_cons_succ]
        refine wpL_nil ?_
        intro wt hwt
        have q2 := k2.below hwt k2.lt
        go_wp2_with ((with_reducible refine at_st 24 (.tmp 9) (.tmp 24) ?_); refine wpList_store_row rfl 24 (.tmp 9) (.tmp 24) rfl (A + 1) lz.toArray rfl rfl 24 _ q2 HZI.out rfl HZO.out ?_)
        exact bodyPost_ret (v := .tuple #[.slice none 0 0, .agg lz.toArray, .bool true]) (results_trt rfl _ _ (A + 1) 24 _ _ _ _ _ rfl rfl rfl (setRow_heap _ _ _ _ _ _ q2) hu.out rfl HZI.out) rfl ⟨_, by rw [HZ.out], Own.nil _ _ _ _, by (try rw [hAe]); exact below_setRow (k3.trans (hwt.mono (by omega))) (by omega) _⟩
      · have hp1 := lp_pos n
        have hp2 := lp_lt n h3
        have hl := left_any n h3 hmax
        have e : pclimb leaf i n path = if i < lp n then
            ((pclimb leaf i (lp n) (path.take (path.length - 1))).1 ++ [((pclimb leaf i (lp n) (path.take (path.length - 1))).2.1, path.getD (path.length - 1) [])], Sha.node (pclimb leaf i (lp n) (path.take (path.length - 1))).2.1 (path.getD (path.length - 1) []), (pclimb leaf i (lp n) (path.take (path.length - 1))).2.2)
          else ((pclimb leaf (i - lp n) (n - lp n) (path.take (path.length - 1))).1 ++ [(path.getD (path.length - 1) [], (pclimb leaf (i - lp n) (n - lp n) (path.take (path.length - 1))).2.1)], Sha.node (path.getD (path.length - 1) []) (pclimb leaf (i - lp n) (n - lp n) (path.take (path.length - 1))).2.1, (pclimb leaf (i - lp n) (n - lp n) (path.take (path.length - 1))).2.2) := by
          rw [pclimb, if_pos h3, if_neg hm0]
        obtain ⟨g, o, cap, rfl, hcap, hg, hd, hr, hT⟩ := last_facts hV (by omega)
        have htl : (path.take (path.length - 1)).length = path.length - 1 := by rw [List.length_take]; omega
        rw [e]
        clear e hV
        generalize lp n = p at *
        generalize path.getD (path.length - 1) [] = d at *
        generalize path.take (path.length - 1) = rest at *
        generalize path.length = m at *
        obtain ⟨ld, hD, hldm, hdl, hdo⟩ := v8_list d hd
        rw [← hldm] at hr
        have HD := Lib.hid hD
        have HDI := Lib.hid (inf_size infD32 ld hdl)
        have hDI := Lib.hid (show (Tryd.prog.info? 24).map (·.size) = some ld.length by rw [hdl]; exact infD32)
        have HDS := Lib.hid (st_size ld hdl)
        have HDO := Lib.hid (all_oneCell_toArray hdo)
        have hm1 : m - 1 ≤ cap := by omega
        have hm2 : m - 1 < m := by omega
        have hm00 : (0 : Int) ≤ (m : Int) - 1 := by omega
        have hmt : ((m : Int) - 1).toNat = m - 1 := by omega
        have hml : (m : Int) - 1 < (m : Int) := by omega
        have hmc : (m : Int) - 1 ≤ (cap : Int) := by omega
        have hm3 : (1 : Int) ≤ (m : Int) := by omega
        have hn1 : ¬ ((n : Int) = 1) := by omega
        have hme : ¬ ((m : Int) = 0) := by omega
        have hw1 : IntKind.i64.wrap ((m : Int) - 1) = (m : Int) - 1 := IntWalk.i64_in _ (by omega)
        have hw2 : IntKind.i64.wrap ((i : Int) - (p : Int)) = (i : Int) - (p : Int) := IntWalk.i64_in _ (by omega)
        have hw3 : IntKind.i64.wrap ((n : Int) - (p : Int)) = (n : Int) - (p : Int) := IntWalk.i64_in _ (by omega)
        have huP := Lib.hid Tryd.underlying93
        by_cases hc : i < p
        · rw [if_pos hc]
          have ihc := fun v w hV hK => ih leaf i p rest v w hlf (by omega) (by omega) (by omega) (by omega) (by omega) hV hK
          have hlc := Nat.le_trans (pclimb_count p leaf i p rest (Nat.le_refl _)) (show p ≤ 1048576 by omega)
          have hrl := pclimb_length leaf hlf i p rest
          rw [hA] at ihc
          generalize pclimb leaf i p rest = rr at *
          obtain ⟨l, r, wr⟩ := rr
          simp only at ihc hlc hrl ⊢
          obtain ⟨lr, hRR, hlrm, hlrl, hlro⟩ := v8_list r hrl
          have HR2 := Lib.hid hRR
          have HRI := Lib.hid (inf_size infD32 lr hlrl); have HRS := Lib.hid (st_size lr hlrl); have HRO := Lib.hid (all_oneCell_toArray hlro)
          have hRI := Lib.hid (show (Tryd.prog.info? 24).map (·.size) = some lr.length by rw [hlrl]; exact infD32)
          have hxl := Sha.node_length r d
          have hnd0 := fun va vb hA hB w hK => node_la r d hrl hd va vb hA hB w hK
          have hnd : ∀ (va vb : Value), .agg lr.toArray = va → .agg ld.toArray = vb → ∀ w, KT w → _ := fun va vb h1 h2 w hK => hnd0 va vb (hRR.trans h1) (hD.trans h2) w hK
          clear hnd0
          have hpc : pcells (l ++ [(r, d)]) = pcells l ++ (lr ++ ld) := by simp [pcells, hldm, hlrm]
          have hpcl : (l ++ [(r, d)]).length = l.length + 1 := by simp
          rw [hpcl]
          generalize Sha.node r d = x at *
          generalize pcells (l ++ [(r, d)]) = pcs at *
          obtain ⟨lx, hX, -, hxx, hxo⟩ := v8_list x hxl
          have HX := Lib.hid hX
          have HXI := Lib.hid (inf_size infD32 lx hxx); have HXL := Lib.hid (show lr.toArray.size = lx.toArray.size by rw [List.size_toArray, List.size_toArray, hlrl, hxx]); have HXO := Lib.hid (all_oneCell_toArray hxo)
          have ld_len := hdl; have lr_len := hlrl
          have ld_one := hdo; have lr_one := hlro
          have ld_inf := hDI; have lr_inf := hRI
          have HPI := Lib.hid (show (Tryd.prog.info? 93).map (·.size) = some (lr ++ ld).toArray.size by rw [List.size_toArray, List.length_append, lr_len, ld_len]; kernel_rfl)
          have HPL := Lib.hid (show (Tryd.prog.info? 93).map (·.size) = some (lr ++ ld).length by rw [List.length_append, lr_len, ld_len]; kernel_rfl)
          have HPS := Lib.hid (show (List.replicate 64 (V8 0)).toArray.size = (lr ++ ld).toArray.size by rw [List.size_toArray, List.size_toArray, List.length_append, lr_len, ld_len]; rfl)
          have HPO := Lib.hid (show (lr ++ ld).toArray.all (·.oneCell') = true from all_oneCell_toArray fun u hu => (List.mem_append.1 hu).elim (lr_one u) (ld_one u))
          clear hX hxx hxo hxl hRR hlrm hldm hlro hlrl hD
          rw [hA]
          have HR := Lib.hid hr
          have HT := Lib.hid hT
          have HDL := Lib.hid hdl; have HDO2 := Lib.hid hdo
          clear hA hao hal hr hT ih hlen hZ hzm hzl hzo hzeq hdo
          go_enter Tryd.func50, Tryd.ntmps50
          go_upto_region 5 with (fail)
          have ⟨k1, k2, k3⟩ := h0.out
          change Code.wp _ _ _ _ ((w.alloc (.cells la.toArray 24)).alloc (.cells (List.replicate 32 (V8 0)).toArray 24))
          have hs0 : ((w.alloc (.cells la.toArray 24)).alloc (.cells (List.replicate 32 (V8 0)).toArray 24)).heap.size = w.heap.size + 1 + 1 := by simp
          clear h0
          generalize (w.alloc (.cells la.toArray 24)).alloc (.cells (List.replicate 32 (V8 0)).toArray 24) = w0 at *
          have hr := range_below HR.out k3 hg
          have hT0 := HT.out.below k3 (Nat.le_refl _)
          have hg0 : g < w0.heap.size := by omega
          have HKT := Lib.hid (Hk.out.below k3 (Nat.le_refl _))
          have hKlt : 0 < w.heap.size := Hk.out.1
          clear HR HT Hk
          generalize hAe : w.heap.size = A at *
          refine wp_region_class 13 [11, 12] [0, 1, 2, 3, 4, 5, 6, 7, 8, 9, 10, 11, 12] (Below w0.heap.size w0) (Stable.below w0) (Below.refl _ _).drew (by kernel_rfl) (by kernel_rfl) ?_
          simp only [opsOf, List.getElem?_cons_succ, List.getElem?_cons_zero, List.drop_succ_cons, List.drop_zero]
          refine wpL_val ?v13 rfl (by rfl) (fun wq hq => ?y13) ?z13
          case y13 => go_simp; with_reducible rfl
          try simp only [Act.put, List.setIfInBounds_toArray, List.set_cons_zero, List.set_cons_succ]
          refine wpL_val ?v14 rfl (by rfl) (fun wq hq => ?y14) ?z14
          case y14 => go_simp; with_reducible rfl
          try simp only [Act.put, List.setIfInBounds_toArray, List.set_cons_zero, List.set_cons_succ]
          refine wpL_val ?v15 rfl (by rfl) (fun wq hq => ?y15) ?z15
          case y15 => go_simp; with_reducible rfl
          try simp only [Act.put, List.setIfInBounds_toArray, List.set_cons_zero, List.set_cons_succ]
          refine wpL_val ?v16 rfl (by rfl) (fun wq hq => ?y16) ?z16
          case y16 => go_simp; with_reducible rfl
          try simp only [Act.put, List.setIfInBounds_toArray, List.set_cons_zero, List.set_cons_succ]
          refine wpL_val ?v17 rfl (by rfl) (fun wq hq => ?y17) ?z17
          case y17 => go_simp; with_reducible rfl
          try simp only [Act.put, List.setIfInBounds_toArray, List.set_cons_zero, List.set_cons_succ]
          refine wpL_val (.agg ld.toArray) rfl (by rfl) (fun wq hq => quiet_ld 24 _ rfl _ _ rfl ld _ (range_below hr hq hg0) hu.out rfl hDI.out) ?_
          try simp only [Act.put, List.setIfInBounds_toArray, List.set_cons_zero, List.set_cons_succ]
          refine wpL_val ?v19 rfl (by rfl) (fun wq hq => ?y19) ?z19
          case y19 => go_simp; with_reducible rfl
          try simp only [Act.put, List.setIfInBounds_toArray, List.set_cons_zero, List.set_cons_succ]
          refine wpL_val ?v20 rfl (by rfl) (fun wq hq => ?y20) ?z20
          case y20 => go_simp; with_reducible rfl
          try simp only [Act.put, List.setIfInBounds_toArray, List.set_cons_zero, List.set_cons_succ]
          refine wpL_val ?v21 rfl (by rfl) (fun wq hq => ?y21) ?z21
          case y21 => go_simp; with_reducible rfl
          try simp only [Act.put, List.setIfInBounds_toArray, List.set_cons_zero, List.set_cons_succ]
          refine wpL_val ?v22 rfl (by rfl) (fun wq hq => ?y22) ?z22
          case y22 => go_simp; with_reducible rfl
          try simp only [Act.put, List.setIfInBounds_toArray, List.set_cons_zero, List.set_cons_succ]
          refine wpL_val ?v23 rfl (by rfl) (fun wq hq => ?y23) ?z23
          case y23 => go_simp; with_reducible rfl
          try simp only [Act.put, List.setIfInBounds_toArray, List.set_cons_zero, List.set_cons_succ]
          refine wpL_new (fun b => .pointer (some ⟨b, 0, none⟩)) (Z32 24) rfl (by rfl) (Stable.below w0) (fun _ h => h) (fun wq hq => ?ynew) (fun gl hgl => ?_)
          case ynew => go_simp; rfl
          try simp only [Act.put, List.setIfInBounds_toArray, List.set_cons_zero, List.set_cons_succ]
          have hgl2 : w0.heap.size ≤ gl := by obtain ⟨wx, hx, rfl⟩ := hgl; exact hx.size
          clear hgl
          refine wpL_store rfl (by rfl) 24 (.tmp 11) (.tmp 30) rfl gl ld.toArray rfl rfl 24 _ (fun wq hq => hq.2.2) HDI.out HDS.out HDO.out (Stable.below _) (fun wq hq => below_setRow hq.1 hgl2 _) ?_
          try simp only [Act.put, List.setIfInBounds_toArray, List.set_cons_zero, List.set_cons_succ]
          refine wpL_nil ?_
          intro wt hwt
          obtain ⟨wx, hx, hwt⟩ := hwt
          have hFx : Arr wx gl 24 (List.replicate 32 (V8 0)) := hx.2.2
          have hFS : Arr wt gl 24 ld := (hFx.setRow ld.toArray).below hwt (by have := hFx.lt; simpa [World.setRow] using this)
          have hB1 : Below w0.heap.size w0 wt := (below_setRow hx.1 hgl2 _).trans (hwt.mono (by have := hx.1.size; simp [World.setRow]; omega))
          clear hx hwt hFx
          go_upto_region 8 with (go_at_call 66; refine (hl _).mono ?_; rintro e w1 ⟨rfl, rfl⟩)
          have b3 : Below wt.heap.size wt (wt.alloc (.cells (List.replicate 64 (V8 0)).toArray 93)) := below_alloc _ _
          have b4 : Arr (wt.alloc (.cells (List.replicate 64 (V8 0)).toArray 93)) wt.heap.size 93 (List.replicate 64 (V8 0)) := Arr.new _ _ _
          have hFS2 := hFS.below b3 hFS.lt
          have hB2 := hB1.trans (b3.mono hB1.size)
          have hsp := hB1.size
          have hglt := hFS.lt
          have hs3 : (wt.alloc (.cells (List.replicate 64 (V8 0)).toArray 93)).heap.size = wt.heap.size + 1 := by simp
          change Code.wp _ _ _ _ (wt.alloc (.cells (List.replicate 64 (V8 0)).toArray 93))
          generalize wt.alloc (.cells (List.replicate 64 (V8 0)).toArray 93) = w1 at *
          generalize wt.heap.size = gp at *
          have j1 := k1.below hB2 k1.lt
          have j2 := k2.below hB2 k2.lt
          have jB := k3.trans (hB2.mono (by omega))
          have jT := hT0.below hB2 (Nat.le_refl _)
          have jK := Lib.hid (HKT.out.below hB2 (Nat.le_refl _))
          clear k1 k2 k3 hT0 hB1 hB2 hFS b3 hg0 hr HKT
          go_upto_region 9 with (fail)
          go_wp2_with ((with_reducible refine at_ld 24 (.tmp 4) ?_); refine wpList_load_row rfl 24 (.tmp 4) rfl A rfl 24 la.toArray (0, 0) _ j1 hu.out rfl HI.out ?_)
          refine (ihc _ _ jT jK.out).mono ?_
          rintro e w2 ⟨v2, rfl, hO2, hb2⟩
          rw [HR2.out]
          have q1 := j1.below hb2 j1.lt
          have q2 := j2.below hb2 j2.lt
          have qF := hFS2.below hb2 hFS2.lt
          have qP := b4.below hb2 b4.lt
          have qB := jB.trans (hb2.mono (by have := jB.size; omega))
          have qK := Lib.hid (jK.out.below hb2 (Nat.le_refl _))
          have qs := hb2.size
          have s2 := q2.setRow lr.toArray
          have sF := qF.setRow_other (A + 1) lr.toArray (by omega)
          have sP := qP.setRow_other (A + 1) lr.toArray (by omega)
          have sB : Below A w (w2.setRow (A + 1) lr.toArray) := below_setRow qB (by omega) _
          have sB2 : Below (A + 1) w2 (w2.setRow (A + 1) lr.toArray) := below_setRow (Below.refl _ _) (by omega) _
          have sK := Lib.hid (qK.out.below (B := w2.heap.size) (w' := w2) (Below.refl _ _) (Nat.le_refl _))
          have sO : Own (w2.setRow (A + 1) lr.toArray) w1.heap.size 93 64 v2 l.length (pcells l) := hO2.kept fun k hk => Go.setRow_other _ _ _ _ (by have := (hO2.lt k hk).1; omega)
          have sS : (w2.setRow (A + 1) lr.toArray).heap.size = w2.heap.size := by simp [World.setRow]
          clear hb2 hO2 j1 j2 jB jT jK q1 qF qP
          obtain ⟨a2, c2, rfl⟩ := sO.shape
          go_upto_region 10 with ((with_reducible refine at_st 24 (.tmp 9) (.tmp 48) ?_); refine wpList_store_row rfl 24 (.tmp 9) (.tmp 48) rfl (A + 1) lr.toArray rfl rfl 24 _ q2 HRI.out HRS.out HRO.out ?_)
          have SK2 : KT (w2.setRow (A + 1) lr.toArray) := ⟨by rw [sS]; exact qK.out.1, fun k hk => (sB2.cell (p := ⟨0, k, none⟩) (by have := hKlt; show 0 < A + 1; omega)).trans (qK.out.2 k hk)⟩
          change Code.wp _ _ _ _ (w2.setRow (A + 1) lr.toArray)
          change Arr (w2.setRow (A + 1) lr.toArray) (A + 1) 24 lr at s2
          clear q2 qB qK sB2 sK
          generalize w2.setRow (A + 1) lr.toArray = w3 at *
          have SK3 := Lib.hid SK2
          clear SK2
          have t1 := s2.setRow_other gp (lr ++ ld).toArray (by omega)
          have t2 := sP.setRow (lr ++ ld).toArray
          have tB : Below A w (w3.setRow gp (lr ++ ld).toArray) := below_setRow sB (by omega) _
          have tB2 : Below gp w3 (w3.setRow gp (lr ++ ld).toArray) := below_setRow (Below.refl _ _) (Nat.le_refl _) _
          have tO := sO.kept (w' := w3.setRow gp (lr ++ ld).toArray) fun k hk => Go.setRow_other _ _ _ _ (by have := (sO.lt k hk).1; omega)
          have tS : (w3.setRow gp (lr ++ ld).toArray).heap.size = w3.heap.size := by simp [World.setRow]
          go_upto_region 13 with (first | ((with_reducible refine at_ld 24 (.tmp 9) ?_); refine wpList_load_row rfl 24 (.tmp 9) rfl (A + 1) rfl 24 lr.toArray (0, 0) _ s2 hu.out rfl HRI.out ?_) | ((with_reducible refine at_ld 24 (.tmp 11) ?_); refine wpList_load_row rfl 24 (.tmp 11) rfl gl rfl 24 ld.toArray (0, 0) _ sF hu.out rfl HDI.out ?_) | ((with_reducible refine at_bd _ _ ?_); refine wpList_bp rfl (.tmp 50) (.tmp 51) rfl lr ld lr_len ld_len rfl rfl ?_) | ((with_reducible refine at_st 93 (.tmp 14) (.tmp 52) ?_); refine wpList_store_row rfl 93 (.tmp 14) (.tmp 52) rfl gp (lr ++ ld).toArray rfl rfl 93 _ sP HPI.out HPS.out HPO.out ?_))
          have TK : KT (w3.setRow gp (lr ++ ld).toArray) := ⟨by rw [tS]; exact SK3.out.1, fun k hk => (tB2.cell (p := ⟨0, k, none⟩) (by have := hKlt; show 0 < gp; omega)).trans (SK3.out.2 k hk)⟩
          change Code.wp _ _ _ _ (w3.setRow gp (lr ++ ld).toArray)
          change Arr (w3.setRow gp (lr ++ ld).toArray) gp 93 (lr ++ ld) at t2
          clear s2 sF sP sB sO tB2 SK3
          generalize w3.setRow gp (lr ++ ld).toArray = w4 at *
          have TK4 := Lib.hid TK
          clear TK
          have hPlt := t2.lt
          have hob : ∀ k, some k = (Value.slice a2 l.length c2).ownBlock → w1.heap.size ≤ k ∧ k < w4.heap.size := fun k hk => tO.lt k hk.symm
          have hSp : ¬ (some gp = (Value.slice a2 l.length c2).ownBlock ∨ gp = A + 1) := by rintro (h | h); (have := (hob _ h).1; omega); omega
          have hSk : ¬ (some 0 = (Value.slice a2 l.length c2).ownBlock ∨ 0 = A + 1) := by rintro (h | h); (have := (hob _ h).1; omega); omega
          have hKq : ∀ wq, But w4 (fun k => some k = (Value.slice a2 l.length c2).ownBlock ∨ k = A + 1) wq → KT wq := fun wq hq =>
            ⟨Nat.lt_of_lt_of_le TK4.out.1 hq.size, fun k hk => (World.cell?_of_block (w := w4) (hq.block _ TK4.out.1 hSk)).trans (TK4.out.2 k hk)⟩
          have hPq : ∀ wq, But w4 (fun k => some k = (Value.slice a2 l.length c2).ownBlock ∨ k = A + 1) wq → Arr wq gp 93 (lr ++ ld) := fun wq hq => hq.arr t2 hSp
          have hPl : ∀ wq, But w4 (fun k => some k = (Value.slice a2 l.length c2).ownBlock ∨ k = A + 1) wq → wq.rangeAt gp 0 lr := fun wq hq j u hj => by
            rw [Nat.zero_add, (hPq wq hq).cell j, List.getElem?_append_left (List.getElem?_eq_some_iff.1 hj).1]; exact hj
          have hPr : ∀ wq, But w4 (fun k => some k = (Value.slice a2 l.length c2).ownBlock ∨ k = A + 1) wq → wq.rangeAt gp (0 + 32) ld := fun wq hq j u hj => by
            rw [(hPq wq hq).cell, List.getElem?_append_right (by rw [lr_len]; omega), lr_len, show 0 + 32 + j - 32 = j by omega]; exact hj
          have hSt := But.stable w4 (fun k => some k = (Value.slice a2 l.length c2).ownBlock ∨ k = A + 1)
          have hpz : (lr ++ ld).length = 64 := by rw [List.length_append, lr_len, ld_len]
          have hpo : ∀ u ∈ lr ++ ld, u.oneCell' = true := fun u hu => (List.mem_append.1 hu).elim (lr_one u) (ld_one u)
          have hbs : ∀ v ∈ ([.agg (lr ++ ld).toArray] : List Value), v.cells.size = 64 := by intro v hv; simp only [List.mem_singleton] at hv; subst hv; show ((lr ++ ld).toArray).size = 64; rw [List.size_toArray]; exact hpz
          refine wp_region_class2 12 [2, 3, 11] [0, 1, 4, 5, 6, 7, 9, 2, 3, 8, 10, 11] (But w4 (fun k => some k = (Value.slice a2 l.length c2).ownBlock ∨ k = A + 1)) (Below w4.heap.size w4) (Stable.below _) (fun _ h => But.of h) (Below.refl _ _).drew (by kernel_rfl) (by kernel_rfl) ?_
          simp only [opsOf, List.getElem?_cons_succ, List.getElem?_cons_zero, List.drop_succ_cons, List.drop_zero]
          refine wpL_val ?v26 rfl (by rfl) (fun wq hq => ?y26) ?z26
          case y26 => go_simp; with_reducible rfl
          try simp only [Act.put, List.setIfInBounds_toArray, List.set_cons_zero, List.set_cons_succ]
          refine wpL_val (.agg (lr ++ ld).toArray) rfl (by rfl) (fun wq hq => quiet_ld 93 _ rfl _ _ rfl (lr ++ ld) _ (hPq wq hq).range huP.out rfl HPL.out) ?_
          try simp only [Act.put, List.setIfInBounds_toArray, List.set_cons_zero, List.set_cons_succ]
          refine wpL_val ?v27 rfl (by rfl) (fun wq hq => ?y27) ?z27
          case y27 => go_simp; with_reducible rfl
          try simp only [Act.put, List.setIfInBounds_toArray, List.set_cons_zero, List.set_cons_succ]
          refine wpL_val (.agg lr.toArray) rfl (by rfl) (fun wq hq => quiet_ld 24 _ rfl _ _ rfl lr _ (hPl wq hq) hu.out rfl lr_inf.out) ?_
          try simp only [Act.put, List.setIfInBounds_toArray, List.set_cons_zero, List.set_cons_succ]
          refine wpL_val ?v29 rfl (by rfl) (fun wq hq => ?y29) ?z29
          case y29 => go_simp; with_reducible rfl
          try simp only [Act.put, List.setIfInBounds_toArray, List.set_cons_zero, List.set_cons_succ]
          refine wpL_val (.agg ld.toArray) rfl (by rfl) (fun wq hq => quiet_ld 24 _ rfl _ _ rfl ld _ (hPr wq hq) hu.out rfl ld_inf.out) ?_
          try simp only [Act.put, List.setIfInBounds_toArray, List.set_cons_zero, List.set_cons_succ]
          refine wpL_val ?v31 rfl (by rfl) (fun wq hq => ?y31) ?z31
          case y31 => go_simp; with_reducible rfl
          try simp only [Act.put, List.setIfInBounds_toArray, List.set_cons_zero, List.set_cons_succ]
          refine wpL_new (fun b => .slice (some ⟨b, 0, none⟩) 1 1) (.cells (lr ++ ld).toArray 93) rfl (by rfl) (Stable.below _) (fun _ h => But.of h) (fun wq hq => ?ybs) (fun b hb => ?_)
          case ybs => exact (run_bsS (P := Tryd.prog) 64 (by decide) (by decide) 82 93 1 _ rfl [.agg (lr ++ ld).toArray] rfl hbs rfl (by decide) (by decide) Tryd.underlying82 i64P).trans (by simp [Value.cells])
          try simp only [Act.put, List.setIfInBounds_toArray, List.set_cons_zero, List.set_cons_succ]
          refine wpL_appS 64 (by decide) rfl (by rfl) (.tmp 69) (.tmp 71) 82 rfl w1.heap.size 93 i64P Tryd.underlying82 (.slice a2 l.length c2) l.length (pcells l) rfl ⟨b, 0, none⟩ 1 (lr ++ ld) rfl hpz hpo hlc hSt (fun _ _ h h2 => h.grown h2 (fun k hk => .inl hk)) (fun wq hq => ?_) (fun v5 w5 wa hDa hAp => ?_)
          · refine ⟨But.of hq.1, tO.below hq.1 (Nat.le_refl _), ?_, fun j u hu => ?_⟩
            · have := hq.1.size; omega
            · have hb : Arr wq b 93 (lr ++ ld) := hq.2.2
              rw [Addr.add_lit, Nat.zero_add, hb.cell j, hu]
          try simp only [Act.put, List.setIfInBounds_toArray, List.set_cons_zero, List.set_cons_succ]
          have hw5 : But w4 (fun k => some k = (Value.slice a2 l.length c2).ownBlock ∨ k = A + 1) w5 := (But.of hDa.1).grown hAp.2.1 (fun k hk => .inl hk)
          have h51 : Arr w5 (A + 1) 24 lr := by
            unfold Arr
            have := hDa.1.size
            have := t1.lt
            rw [hAp.2.1.block (A + 1) (by omega) (fun e => by have := (hob _ e).1; omega), hDa.1.block (A + 1) (by omega)]
            exact t1
          have hB5 : Below A w w5 := by
            have hx := hDa.1.size
            refine ⟨hAp.2.1.os.trans (hDa.1.os.trans tB.os), hAp.2.1.tape.trans (hDa.1.tape.trans tB.tape), hAp.2.1.output.trans (hDa.1.output.trans tB.output), Nat.le_trans tB.size (Nat.le_trans hx hAp.2.1.size), fun k hk => ?_⟩
            rw [hAp.2.1.block k (by omega) (fun e => by have := (hob _ e).1; omega), hDa.1.block k (by omega), tB.block k hk]
          have hO5 := hAp.1
          have hz5 := hw5.size
          have hown5 : v5.ownBlock ≠ some (A + 1) := by
            rcases hAp.2.2 with h | ⟨k, hk, hle⟩
            · rw [h]; intro e; have := (hob _ e.symm).1; omega
            · rw [hk]; intro e; have := hDa.1.size; simp at e; omega
          obtain ⟨a5, c5, rfl⟩ := hO5.shape
          clear hAp hDa tB tO hob
          refine wpL_val ?v32 rfl (by rfl) (fun wq hq => ?y32) ?z32
          case y32 => go_simp; exact hnd _ _ rfl rfl _ (hKq wq hq)
          try simp only [Act.put, List.setIfInBounds_toArray, List.set_cons_zero, List.set_cons_succ]
          refine wpL_val ?v33 rfl (by rfl) (fun wq hq => ?y33) ?z33
          case y33 => go_simp; with_reducible rfl
          try simp only [Act.put, List.setIfInBounds_toArray, List.set_cons_zero, List.set_cons_succ]
          refine wpL_store rfl (by rfl) 24 (.tmp 9) (.tmp 77) rfl (A + 1) lx.toArray rfl ?hyd 24 _ (fun wq hq => h51.below hq h51.lt) HXI.out HXL.out HXO.out hSt (fun wq hq => (hSt _ _ hw5 hq).row (.inl (.inr rfl)) _) ?_
          case hyd => exact HX.out
          try simp only [Act.put, List.setIfInBounds_toArray, List.set_cons_zero, List.set_cons_succ]
          refine wpL_nil ?_
          intro wt hwt
          obtain ⟨wx, hx, hwt⟩ := hwt
          have f1 := h51.below hx h51.lt
          have f2 := (f1.setRow lx.toArray).below hwt (by have := f1.lt; simpa [World.setRow] using this)
          have f3 : Below A w wt := (below_setRow (hB5.trans (hx.mono (by omega))) (by omega) _).trans (hwt.mono (by have := hx.size; simp [World.setRow]; omega))
          have f4 := ((hO5.below hx (Nat.le_refl _)).kept (w' := wx.setRow (A + 1) lx.toArray) fun k hk => Go.setRow_other _ _ _ _ (fun e => hown5 (by rw [← e]; exact hk))).below hwt (by simp [World.setRow])
          go_wp2_with fail
          exact bodyPost_ret (v := .tuple #[.slice a5 (l.length + 1) c5, .agg lx.toArray, .bool wr]) (results_trt rfl _ _ (A + 1) 24 _ _ _ _ _ rfl rfl rfl f2 hu.out rfl HXI.out) rfl ⟨_, by rw [HX.out], by (try rw [hAe]); (try rw [hpc]); exact f4.mono (by omega), by (try rw [hAe]); exact f3⟩
        · rw [if_neg hc]
          have ihc := fun v w hV hK => ih leaf (i - p) (n - p) rest v w hlf (by omega) (by omega) (by omega) (by omega) (by omega) hV hK
          have hlc := Nat.le_trans (pclimb_count (n - p) leaf (i - p) (n - p) rest (Nat.le_refl _)) (show (n - p) ≤ 1048576 by omega)
          have hrl := pclimb_length leaf hlf (i - p) (n - p) rest
          rw [hA] at ihc
          have c1 : ((i - p : Nat) : Int) = (i : Int) - (p : Int) := by omega
          have c2 : ((n - p : Nat) : Int) = (n : Int) - (p : Int) := by omega
          rw [c1, c2] at ihc
          clear c1 c2
          generalize pclimb leaf (i - p) (n - p) rest = rr at *
          obtain ⟨l, r, wr⟩ := rr
          simp only at ihc hlc hrl ⊢
          obtain ⟨lr, hRR, hlrm, hlrl, hlro⟩ := v8_list r hrl
          have HR2 := Lib.hid hRR
          have HRI := Lib.hid (inf_size infD32 lr hlrl); have HRS := Lib.hid (st_size lr hlrl); have HRO := Lib.hid (all_oneCell_toArray hlro)
          have hRI := Lib.hid (show (Tryd.prog.info? 24).map (·.size) = some lr.length by rw [hlrl]; exact infD32)
          have hxl := Sha.node_length d r
          have hnd0 := fun va vb hA hB w hK => node_la d r hd hrl va vb hA hB w hK
          have hnd : ∀ (va vb : Value), .agg ld.toArray = va → .agg lr.toArray = vb → ∀ w, KT w → _ := fun va vb h1 h2 w hK => hnd0 va vb (hD.trans h1) (hRR.trans h2) w hK
          clear hnd0
          have hpc : pcells (l ++ [(d, r)]) = pcells l ++ (ld ++ lr) := by simp [pcells, hldm, hlrm]
          have hpcl : (l ++ [(d, r)]).length = l.length + 1 := by simp
          rw [hpcl]
          generalize Sha.node d r = x at *
          generalize pcells (l ++ [(d, r)]) = pcs at *
          obtain ⟨lx, hX, -, hxx, hxo⟩ := v8_list x hxl
          have HX := Lib.hid hX
          have HXI := Lib.hid (inf_size infD32 lx hxx); have HXL := Lib.hid (show lr.toArray.size = lx.toArray.size by rw [List.size_toArray, List.size_toArray, hlrl, hxx]); have HXO := Lib.hid (all_oneCell_toArray hxo)
          have ld_len := hdl; have lr_len := hlrl
          have ld_one := hdo; have lr_one := hlro
          have ld_inf := hDI; have lr_inf := hRI
          have HPI := Lib.hid (show (Tryd.prog.info? 93).map (·.size) = some (ld ++ lr).toArray.size by rw [List.size_toArray, List.length_append, ld_len, lr_len]; kernel_rfl)
          have HPL := Lib.hid (show (Tryd.prog.info? 93).map (·.size) = some (ld ++ lr).length by rw [List.length_append, ld_len, lr_len]; kernel_rfl)
          have HPS := Lib.hid (show (List.replicate 64 (V8 0)).toArray.size = (ld ++ lr).toArray.size by rw [List.size_toArray, List.size_toArray, List.length_append, ld_len, lr_len]; rfl)
          have HPO := Lib.hid (show (ld ++ lr).toArray.all (·.oneCell') = true from all_oneCell_toArray fun u hu => (List.mem_append.1 hu).elim (ld_one u) (lr_one u))
          clear hX hxx hxo hxl hRR hlrm hldm hlro hlrl hD
          rw [hA]
          have HR := Lib.hid hr
          have HT := Lib.hid hT
          have HDL := Lib.hid hdl; have HDO2 := Lib.hid hdo
          clear hA hao hal hr hT ih hlen hZ hzm hzl hzo hzeq hdo
          go_enter Tryd.func50, Tryd.ntmps50
          go_upto_region 5 with (fail)
          have ⟨k1, k2, k3⟩ := h0.out
          change Code.wp _ _ _ _ ((w.alloc (.cells la.toArray 24)).alloc (.cells (List.replicate 32 (V8 0)).toArray 24))
          have hs0 : ((w.alloc (.cells la.toArray 24)).alloc (.cells (List.replicate 32 (V8 0)).toArray 24)).heap.size = w.heap.size + 1 + 1 := by simp
          clear h0
          generalize (w.alloc (.cells la.toArray 24)).alloc (.cells (List.replicate 32 (V8 0)).toArray 24) = w0 at *
          have hr := range_below HR.out k3 hg
          have hT0 := HT.out.below k3 (Nat.le_refl _)
          have hg0 : g < w0.heap.size := by omega
          have HKT := Lib.hid (Hk.out.below k3 (Nat.le_refl _))
          have hKlt : 0 < w.heap.size := Hk.out.1
          clear HR HT Hk
          generalize hAe : w.heap.size = A at *
          refine wp_region_class 13 [11, 12] [0, 1, 2, 3, 4, 5, 6, 7, 8, 9, 10, 11, 12] (Below w0.heap.size w0) (Stable.below w0) (Below.refl _ _).drew (by kernel_rfl) (by kernel_rfl) ?_
          simp only [opsOf, List.getElem?_cons_succ, List.getElem?_cons_zero, List.drop_succ_cons, List.drop_zero]
          refine wpL_val ?v36 rfl (by rfl) (fun wq hq => ?y36) ?z36
          case y36 => go_simp; with_reducible rfl
          try simp only [Act.put, List.setIfInBounds_toArray, List.set_cons_zero, List.set_cons_succ]
          refine wpL_val ?v37 rfl (by rfl) (fun wq hq => ?y37) ?z37
          case y37 => go_simp; with_reducible rfl
          try simp only [Act.put, List.setIfInBounds_toArray, List.set_cons_zero, List.set_cons_succ]
          refine wpL_val ?v38 rfl (by rfl) (fun wq hq => ?y38) ?z38
          case y38 => go_simp; with_reducible rfl
          try simp only [Act.put, List.setIfInBounds_toArray, List.set_cons_zero, List.set_cons_succ]
          refine wpL_val ?v39 rfl (by rfl) (fun wq hq => ?y39) ?z39
          case y39 => go_simp; with_reducible rfl
          try simp only [Act.put, List.setIfInBounds_toArray, List.set_cons_zero, List.set_cons_succ]
          refine wpL_val ?v40 rfl (by rfl) (fun wq hq => ?y40) ?z40
          case y40 => go_simp; with_reducible rfl
          try simp only [Act.put, List.setIfInBounds_toArray, List.set_cons_zero, List.set_cons_succ]
          refine wpL_val (.agg ld.toArray) rfl (by rfl) (fun wq hq => quiet_ld 24 _ rfl _ _ rfl ld _ (range_below hr hq hg0) hu.out rfl hDI.out) ?_
          try simp only [Act.put, List.setIfInBounds_toArray, List.set_cons_zero, List.set_cons_succ]
          refine wpL_val ?v42 rfl (by rfl) (fun wq hq => ?y42) ?z42
          case y42 => go_simp; with_reducible rfl
          try simp only [Act.put, List.setIfInBounds_toArray, List.set_cons_zero, List.set_cons_succ]
          refine wpL_val ?v43 rfl (by rfl) (fun wq hq => ?y43) ?z43
          case y43 => go_simp; with_reducible rfl
          try simp only [Act.put, List.setIfInBounds_toArray, List.set_cons_zero, List.set_cons_succ]
          refine wpL_val ?v44 rfl (by rfl) (fun wq hq => ?y44) ?z44
          case y44 => go_simp; with_reducible rfl
          try simp only [Act.put, List.setIfInBounds_toArray, List.set_cons_zero, List.set_cons_succ]
          refine wpL_val ?v45 rfl (by rfl) (fun wq hq => ?y45) ?z45
          case y45 => go_simp; with_reducible rfl
          try simp only [Act.put, List.setIfInBounds_toArray, List.set_cons_zero, List.set_cons_succ]
          refine wpL_val ?v46 rfl (by rfl) (fun wq hq => ?y46) ?z46
          case y46 => go_simp; with_reducible rfl
          try simp only [Act.put, List.setIfInBounds_toArray, List.set_cons_zero, List.set_cons_succ]
          refine wpL_new (fun b => .pointer (some ⟨b, 0, none⟩)) (Z32 24) rfl (by rfl) (Stable.below w0) (fun _ h => h) (fun wq hq => ?ynew) (fun gl hgl => ?_)
          case ynew => go_simp; rfl
          try simp only [Act.put, List.setIfInBounds_toArray, List.set_cons_zero, List.set_cons_succ]
          have hgl2 : w0.heap.size ≤ gl := by obtain ⟨wx, hx, rfl⟩ := hgl; exact hx.size
          clear hgl
          refine wpL_store rfl (by rfl) 24 (.tmp 11) (.tmp 30) rfl gl ld.toArray rfl rfl 24 _ (fun wq hq => hq.2.2) HDI.out HDS.out HDO.out (Stable.below _) (fun wq hq => below_setRow hq.1 hgl2 _) ?_
          try simp only [Act.put, List.setIfInBounds_toArray, List.set_cons_zero, List.set_cons_succ]
          refine wpL_nil ?_
          intro wt hwt
          obtain ⟨wx, hx, hwt⟩ := hwt
          have hFx : Arr wx gl 24 (List.replicate 32 (V8 0)) := hx.2.2
          have hFS : Arr wt gl 24 ld := (hFx.setRow ld.toArray).below hwt (by have := hFx.lt; simpa [World.setRow] using this)
          have hB1 : Below w0.heap.size w0 wt := (below_setRow hx.1 hgl2 _).trans (hwt.mono (by have := hx.1.size; simp [World.setRow]; omega))
          clear hx hwt hFx
          go_upto_region 8 with (go_at_call 66; refine (hl _).mono ?_; rintro e w1 ⟨rfl, rfl⟩)
          have b3 : Below wt.heap.size wt (wt.alloc (.cells (List.replicate 64 (V8 0)).toArray 93)) := below_alloc _ _
          have b4 : Arr (wt.alloc (.cells (List.replicate 64 (V8 0)).toArray 93)) wt.heap.size 93 (List.replicate 64 (V8 0)) := Arr.new _ _ _
          have hFS2 := hFS.below b3 hFS.lt
          have hB2 := hB1.trans (b3.mono hB1.size)
          have hsp := hB1.size
          have hglt := hFS.lt
          have hs3 : (wt.alloc (.cells (List.replicate 64 (V8 0)).toArray 93)).heap.size = wt.heap.size + 1 := by simp
          change Code.wp _ _ _ _ (wt.alloc (.cells (List.replicate 64 (V8 0)).toArray 93))
          generalize wt.alloc (.cells (List.replicate 64 (V8 0)).toArray 93) = w1 at *
          generalize wt.heap.size = gp at *
          have j1 := k1.below hB2 k1.lt
          have j2 := k2.below hB2 k2.lt
          have jB := k3.trans (hB2.mono (by omega))
          have jT := hT0.below hB2 (Nat.le_refl _)
          have jK := Lib.hid (HKT.out.below hB2 (Nat.le_refl _))
          clear k1 k2 k3 hT0 hB1 hB2 hFS b3 hg0 hr HKT
          go_upto_region 11 with (fail)
          go_wp2_with ((with_reducible refine at_ld 24 (.tmp 4) ?_); refine wpList_load_row rfl 24 (.tmp 4) rfl A rfl 24 la.toArray (0, 0) _ j1 hu.out rfl HI.out ?_)
          refine (ihc _ _ jT jK.out).mono ?_
          rintro e w2 ⟨v2, rfl, hO2, hb2⟩
          rw [HR2.out]
          have q1 := j1.below hb2 j1.lt
          have q2 := j2.below hb2 j2.lt
          have qF := hFS2.below hb2 hFS2.lt
          have qP := b4.below hb2 b4.lt
          have qB := jB.trans (hb2.mono (by have := jB.size; omega))
          have qK := Lib.hid (jK.out.below hb2 (Nat.le_refl _))
          have qs := hb2.size
          have s2 := q2.setRow lr.toArray
          have sF := qF.setRow_other (A + 1) lr.toArray (by omega)
          have sP := qP.setRow_other (A + 1) lr.toArray (by omega)
          have sB : Below A w (w2.setRow (A + 1) lr.toArray) := below_setRow qB (by omega) _
          have sB2 : Below (A + 1) w2 (w2.setRow (A + 1) lr.toArray) := below_setRow (Below.refl _ _) (by omega) _
          have sK := Lib.hid (qK.out.below (B := w2.heap.size) (w' := w2) (Below.refl _ _) (Nat.le_refl _))
          have sO : Own (w2.setRow (A + 1) lr.toArray) w1.heap.size 93 64 v2 l.length (pcells l) := hO2.kept fun k hk => Go.setRow_other _ _ _ _ (by have := (hO2.lt k hk).1; omega)
          have sS : (w2.setRow (A + 1) lr.toArray).heap.size = w2.heap.size := by simp [World.setRow]
          clear hb2 hO2 j1 j2 jB jT jK q1 qF qP
          obtain ⟨a2, c2, rfl⟩ := sO.shape
          go_upto_region 12 with ((with_reducible refine at_st 24 (.tmp 9) (.tmp 64) ?_); refine wpList_store_row rfl 24 (.tmp 9) (.tmp 64) rfl (A + 1) lr.toArray rfl rfl 24 _ q2 HRI.out HRS.out HRO.out ?_)
          have SK2 : KT (w2.setRow (A + 1) lr.toArray) := ⟨by rw [sS]; exact qK.out.1, fun k hk => (sB2.cell (p := ⟨0, k, none⟩) (by have := hKlt; show 0 < A + 1; omega)).trans (qK.out.2 k hk)⟩
          change Code.wp _ _ _ _ (w2.setRow (A + 1) lr.toArray)
          change Arr (w2.setRow (A + 1) lr.toArray) (A + 1) 24 lr at s2
          clear q2 qB qK sB2 sK
          generalize w2.setRow (A + 1) lr.toArray = w3 at *
          have SK3 := Lib.hid SK2
          clear SK2
          have t1 := s2.setRow_other gp (ld ++ lr).toArray (by omega)
          have t2 := sP.setRow (ld ++ lr).toArray
          have tB : Below A w (w3.setRow gp (ld ++ lr).toArray) := below_setRow sB (by omega) _
          have tB2 : Below gp w3 (w3.setRow gp (ld ++ lr).toArray) := below_setRow (Below.refl _ _) (Nat.le_refl _) _
          have tO := sO.kept (w' := w3.setRow gp (ld ++ lr).toArray) fun k hk => Go.setRow_other _ _ _ _ (by have := (sO.lt k hk).1; omega)
          have tS : (w3.setRow gp (ld ++ lr).toArray).heap.size = w3.heap.size := by simp [World.setRow]
          go_upto_region 13 with (first | ((with_reducible refine at_ld 24 (.tmp 9) ?_); refine wpList_load_row rfl 24 (.tmp 9) rfl (A + 1) rfl 24 lr.toArray (0, 0) _ s2 hu.out rfl HRI.out ?_) | ((with_reducible refine at_ld 24 (.tmp 11) ?_); refine wpList_load_row rfl 24 (.tmp 11) rfl gl rfl 24 ld.toArray (0, 0) _ sF hu.out rfl HDI.out ?_) | ((with_reducible refine at_bd _ _ ?_); refine wpList_bp rfl (.tmp 66) (.tmp 67) rfl ld lr ld_len lr_len rfl rfl ?_) | ((with_reducible refine at_st 93 (.tmp 14) (.tmp 68) ?_); refine wpList_store_row rfl 93 (.tmp 14) (.tmp 68) rfl gp (ld ++ lr).toArray rfl rfl 93 _ sP HPI.out HPS.out HPO.out ?_))
          have TK : KT (w3.setRow gp (ld ++ lr).toArray) := ⟨by rw [tS]; exact SK3.out.1, fun k hk => (tB2.cell (p := ⟨0, k, none⟩) (by have := hKlt; show 0 < gp; omega)).trans (SK3.out.2 k hk)⟩
          change Code.wp _ _ _ _ (w3.setRow gp (ld ++ lr).toArray)
          change Arr (w3.setRow gp (ld ++ lr).toArray) gp 93 (ld ++ lr) at t2
          clear s2 sF sP sB sO tB2 SK3
          generalize w3.setRow gp (ld ++ lr).toArray = w4 at *
          have TK4 := Lib.hid TK
          clear TK
          have hPlt := t2.lt
          have hob : ∀ k, some k = (Value.slice a2 l.length c2).ownBlock → w1.heap.size ≤ k ∧ k < w4.heap.size := fun k hk => tO.lt k hk.symm
          have hSp : ¬ (some gp = (Value.slice a2 l.length c2).ownBlock ∨ gp = A + 1) := by rintro (h | h); (have := (hob _ h).1; omega); omega
          have hSk : ¬ (some 0 = (Value.slice a2 l.length c2).ownBlock ∨ 0 = A + 1) := by rintro (h | h); (have := (hob _ h).1; omega); omega
          have hKq : ∀ wq, But w4 (fun k => some k = (Value.slice a2 l.length c2).ownBlock ∨ k = A + 1) wq → KT wq := fun wq hq =>
            ⟨Nat.lt_of_lt_of_le TK4.out.1 hq.size, fun k hk => (World.cell?_of_block (w := w4) (hq.block _ TK4.out.1 hSk)).trans (TK4.out.2 k hk)⟩
          have hPq : ∀ wq, But w4 (fun k => some k = (Value.slice a2 l.length c2).ownBlock ∨ k = A + 1) wq → Arr wq gp 93 (ld ++ lr) := fun wq hq => hq.arr t2 hSp
          have hPl : ∀ wq, But w4 (fun k => some k = (Value.slice a2 l.length c2).ownBlock ∨ k = A + 1) wq → wq.rangeAt gp 0 ld := fun wq hq j u hj => by
            rw [Nat.zero_add, (hPq wq hq).cell j, List.getElem?_append_left (List.getElem?_eq_some_iff.1 hj).1]; exact hj
          have hPr : ∀ wq, But w4 (fun k => some k = (Value.slice a2 l.length c2).ownBlock ∨ k = A + 1) wq → wq.rangeAt gp (0 + 32) lr := fun wq hq j u hj => by
            rw [(hPq wq hq).cell, List.getElem?_append_right (by rw [ld_len]; omega), ld_len, show 0 + 32 + j - 32 = j by omega]; exact hj
          have hSt := But.stable w4 (fun k => some k = (Value.slice a2 l.length c2).ownBlock ∨ k = A + 1)
          have hpz : (ld ++ lr).length = 64 := by rw [List.length_append, ld_len, lr_len]
          have hpo : ∀ u ∈ ld ++ lr, u.oneCell' = true := fun u hu => (List.mem_append.1 hu).elim (ld_one u) (lr_one u)
          have hbs : ∀ v ∈ ([.agg (ld ++ lr).toArray] : List Value), v.cells.size = 64 := by intro v hv; simp only [List.mem_singleton] at hv; subst hv; show ((ld ++ lr).toArray).size = 64; rw [List.size_toArray]; exact hpz
          refine wp_region_class2 12 [2, 3, 11] [0, 1, 4, 5, 6, 7, 9, 2, 3, 8, 10, 11] (But w4 (fun k => some k = (Value.slice a2 l.length c2).ownBlock ∨ k = A + 1)) (Below w4.heap.size w4) (Stable.below _) (fun _ h => But.of h) (Below.refl _ _).drew (by kernel_rfl) (by kernel_rfl) ?_
          simp only [opsOf, List.getElem?_cons_succ, List.getElem?_cons_zero, List.drop_succ_cons, List.drop_zero]
          refine wpL_val ?v49 rfl (by rfl) (fun wq hq => ?y49) ?z49
          case y49 => go_simp; with_reducible rfl
          try simp only [Act.put, List.setIfInBounds_toArray, List.set_cons_zero, List.set_cons_succ]
          refine wpL_val (.agg (ld ++ lr).toArray) rfl (by rfl) (fun wq hq => quiet_ld 93 _ rfl _ _ rfl (ld ++ lr) _ (hPq wq hq).range huP.out rfl HPL.out) ?_
          try simp only [Act.put, List.setIfInBounds_toArray, List.set_cons_zero, List.set_cons_succ]
          refine wpL_val ?v50 rfl (by rfl) (fun wq hq => ?y50) ?z50
          case y50 => go_simp; with_reducible rfl
          try simp only [Act.put, List.setIfInBounds_toArray, List.set_cons_zero, List.set_cons_succ]
          refine wpL_val (.agg ld.toArray) rfl (by rfl) (fun wq hq => quiet_ld 24 _ rfl _ _ rfl ld _ (hPl wq hq) hu.out rfl ld_inf.out) ?_
          try simp only [Act.put, List.setIfInBounds_toArray, List.set_cons_zero, List.set_cons_succ]
          refine wpL_val ?v52 rfl (by rfl) (fun wq hq => ?y52) ?z52
          case y52 => go_simp; with_reducible rfl
          try simp only [Act.put, List.setIfInBounds_toArray, List.set_cons_zero, List.set_cons_succ]
          refine wpL_val (.agg lr.toArray) rfl (by rfl) (fun wq hq => quiet_ld 24 _ rfl _ _ rfl lr _ (hPr wq hq) hu.out rfl lr_inf.out) ?_
          try simp only [Act.put, List.setIfInBounds_toArray, List.set_cons_zero, List.set_cons_succ]
          refine wpL_val ?v54 rfl (by rfl) (fun wq hq => ?y54) ?z54
          case y54 => go_simp; with_reducible rfl
          try simp only [Act.put, List.setIfInBounds_toArray, List.set_cons_zero, List.set_cons_succ]
          refine wpL_new (fun b => .slice (some ⟨b, 0, none⟩) 1 1) (.cells (ld ++ lr).toArray 93) rfl (by rfl) (Stable.below _) (fun _ h => But.of h) (fun wq hq => ?ybs) (fun b hb => ?_)
          case ybs => exact (run_bsS (P := Tryd.prog) 64 (by decide) (by decide) 82 93 1 _ rfl [.agg (ld ++ lr).toArray] rfl hbs rfl (by decide) (by decide) Tryd.underlying82 i64P).trans (by simp [Value.cells])
          try simp only [Act.put, List.setIfInBounds_toArray, List.set_cons_zero, List.set_cons_succ]
          refine wpL_appS 64 (by decide) rfl (by rfl) (.tmp 69) (.tmp 71) 82 rfl w1.heap.size 93 i64P Tryd.underlying82 (.slice a2 l.length c2) l.length (pcells l) rfl ⟨b, 0, none⟩ 1 (ld ++ lr) rfl hpz hpo hlc hSt (fun _ _ h h2 => h.grown h2 (fun k hk => .inl hk)) (fun wq hq => ?_) (fun v5 w5 wa hDa hAp => ?_)
          · refine ⟨But.of hq.1, tO.below hq.1 (Nat.le_refl _), ?_, fun j u hu => ?_⟩
            · have := hq.1.size; omega
            · have hb : Arr wq b 93 (ld ++ lr) := hq.2.2
              rw [Addr.add_lit, Nat.zero_add, hb.cell j, hu]
          try simp only [Act.put, List.setIfInBounds_toArray, List.set_cons_zero, List.set_cons_succ]
          have hw5 : But w4 (fun k => some k = (Value.slice a2 l.length c2).ownBlock ∨ k = A + 1) w5 := (But.of hDa.1).grown hAp.2.1 (fun k hk => .inl hk)
          have h51 : Arr w5 (A + 1) 24 lr := by
            unfold Arr
            have := hDa.1.size
            have := t1.lt
            rw [hAp.2.1.block (A + 1) (by omega) (fun e => by have := (hob _ e).1; omega), hDa.1.block (A + 1) (by omega)]
            exact t1
          have hB5 : Below A w w5 := by
            have hx := hDa.1.size
            refine ⟨hAp.2.1.os.trans (hDa.1.os.trans tB.os), hAp.2.1.tape.trans (hDa.1.tape.trans tB.tape), hAp.2.1.output.trans (hDa.1.output.trans tB.output), Nat.le_trans tB.size (Nat.le_trans hx hAp.2.1.size), fun k hk => ?_⟩
            rw [hAp.2.1.block k (by omega) (fun e => by have := (hob _ e).1; omega), hDa.1.block k (by omega), tB.block k hk]
          have hO5 := hAp.1
          have hz5 := hw5.size
          have hown5 : v5.ownBlock ≠ some (A + 1) := by
            rcases hAp.2.2 with h | ⟨k, hk, hle⟩
            · rw [h]; intro e; have := (hob _ e.symm).1; omega
            · rw [hk]; intro e; have := hDa.1.size; simp at e; omega
          obtain ⟨a5, c5, rfl⟩ := hO5.shape
          clear hAp hDa tB tO hob
          refine wpL_val ?v55 rfl (by rfl) (fun wq hq => ?y55) ?z55
          case y55 => go_simp; exact hnd _ _ rfl rfl _ (hKq wq hq)
          try simp only [Act.put, List.setIfInBounds_toArray, List.set_cons_zero, List.set_cons_succ]
          refine wpL_val ?v56 rfl (by rfl) (fun wq hq => ?y56) ?z56
          case y56 => go_simp; with_reducible rfl
          try simp only [Act.put, List.setIfInBounds_toArray, List.set_cons_zero, List.set_cons_succ]
          refine wpL_store rfl (by rfl) 24 (.tmp 9) (.tmp 77) rfl (A + 1) lx.toArray rfl ?hyd 24 _ (fun wq hq => h51.below hq h51.lt) HXI.out HXL.out HXO.out hSt (fun wq hq => (hSt _ _ hw5 hq).row (.inl (.inr rfl)) _) ?_
          case hyd => exact HX.out
          try simp only [Act.put, List.setIfInBounds_toArray, List.set_cons_zero, List.set_cons_succ]
          refine wpL_nil ?_
          intro wt hwt
          obtain ⟨wx, hx, hwt⟩ := hwt
          have f1 := h51.below hx h51.lt
          have f2 := (f1.setRow lx.toArray).below hwt (by have := f1.lt; simpa [World.setRow] using this)
          have f3 : Below A w wt := (below_setRow (hB5.trans (hx.mono (by omega))) (by omega) _).trans (hwt.mono (by have := hx.size; simp [World.setRow]; omega))
          have f4 := ((hO5.below hx (Nat.le_refl _)).kept (w' := wx.setRow (A + 1) lx.toArray) fun k hk => Go.setRow_other _ _ _ _ (fun e => hown5 (by rw [← e]; exact hk))).below hwt (by simp [World.setRow])
          go_wp2_with fail
          exact bodyPost_ret (v := .tuple #[.slice a5 (l.length + 1) c5, .agg lx.toArray, .bool wr]) (results_trt rfl _ _ (A + 1) 24 _ _ _ _ _ rfl rfl rfl f2 hu.out rfl HXI.out) rfl ⟨_, by rw [HX.out], by (try rw [hAe]); (try rw [hpc]); exact f4.mono (by omega), by (try rw [hAe]); exact f3⟩
end Go.Proofs.YteehpfccegnjjaaDoor
