/-
  Paths: their length and what they lead to; the contracts of the reference's long, from and From.
-/
import Derived.Test.YteehpfccegnjjaaDoorPlain
import Derived.IntWalk
namespace Go.Proofs.YteehpfccegnjjaaDoor
open Go Go.RowKit
def plong (i n : Nat) : Nat :=
  if 2 ≤ n then 1 + (if i < lp n then plong i (lp n) else plong (i - lp n) (n - lp n)) else 0
termination_by n
decreasing_by
  · exact lp_lt n ‹_›
  · have := lp_pos n; omega
def pfrom (leaf : List UInt8) (i n : Nat) (path : List (List UInt8)) : List UInt8 :=
  if 2 ≤ n then
    if i < lp n then Sha.node (pfrom leaf i (lp n) (path.take (path.length - 1))) (path.getD (path.length - 1) [])
    else Sha.node (path.getD (path.length - 1) []) (pfrom leaf (i - lp n) (n - lp n) (path.take (path.length - 1)))
  else leaf
termination_by n
decreasing_by
  · exact lp_lt n ‹_›
  · have := lp_pos n; omega
theorem pfrom_length (leaf : List UInt8) (hl : leaf.length = 32) (i n : Nat) (path : List (List UInt8)) : (pfrom leaf i n path).length = 32 := by
  rw [pfrom]
  split
  · split <;> exact Sha.node_length _ _
  · exact hl

theorem plong_lt (N : Nat) : ∀ (i n : Nat), n ≤ N → 1 ≤ n → plong i n < n := by
  induction N with
  | zero => intro i n h1 h2; omega
  | succ N ih =>
    intro i n hN h1
    rw [plong]
    split
    · rename_i h2
      have hp1 := lp_pos n
      have hp2 := lp_lt n h2
      split
      · have := ih i (lp n) (by omega) hp1; omega
      · have := ih (i - lp n) (n - lp n) (by omega) (by omega); omega
    · omega
set_option maxRecDepth 100000 in
set_option maxHeartbeats 400000 in
theorem long_any (N : Nat) : ∀ (i n : Nat) (w : World), n ≤ N → 1 ≤ n → n ≤ 1048576 → i < n →
    Calls Tryd.prog 51 #[.int .i64 i, .int .i64 n] w fun e w' => (e = .returned (.int .i64 (plong i n)) ∧ plong i n < n) ∧ w = w' := by
  induction N with
  | zero => intro i n w h1 h2; omega
  | succ N ih =>
    intro i n w hN h1 hmax hi
    by_cases h2 : n = 1
    · subst h2
      have e : plong i 1 = 0 := by rw [plong, if_neg (by omega)]
      rw [e]
      clear ih
      go_enter Tryd.func51, Tryd.ntmps51
      go_wp2_with fail
      go_ret
      exact ⟨⟨rfl, by omega⟩, rfl⟩
    · have h3 : 2 ≤ n := by omega
      have hp1 := lp_pos n
      have hp2 := lp_lt n h3
      have hl := leftR_any n h3 hmax
      have e : plong i n = 1 + (if i < lp n then plong i (lp n) else plong (i - lp n) (n - lp n)) := by rw [plong, if_pos h3]
      rw [e]
      clear e
      generalize lp n = p at *
      by_cases hc : i < p
      · rw [if_pos hc]
        have ih2 := fun w => ih i p w (by omega) hp1 (by omega) hc
        clear ih
        generalize plong i p = q at *
        go_enter Tryd.func51, Tryd.ntmps51
        go_wp2_with (first | (go_at_call 49; refine (hl _).mono ?_; rintro e w1 ⟨rfl, rfl⟩) | (go_at_call 51; refine (ih2 _).mono ?_; rintro e w1 ⟨⟨rfl, hq⟩, rfl⟩))
        go_ret
        exact ⟨⟨by congr 2, by omega⟩, rfl⟩
      · rw [if_neg hc]
        have ih2 := fun w => ih (i - p) (n - p) w (by omega) (by omega) (by omega) (by omega)
        have c1 : ((i - p : Nat) : Int) = (i : Int) - (p : Int) := by omega
        have c2 : ((n - p : Nat) : Int) = (n : Int) - (p : Int) := by omega
        rw [c1, c2] at ih2
        clear ih
        generalize plong (i - p) (n - p) = q at *
        go_enter Tryd.func51, Tryd.ntmps51
        go_wp2_with (first | (go_at_call 49; refine (hl _).mono ?_; rintro e w1 ⟨rfl, rfl⟩) | (go_at_call 51; refine (ih2 _).mono ?_; rintro e w1 ⟨⟨rfl, hq⟩, rfl⟩))
        go_ret
        exact ⟨⟨by congr 2, by omega⟩, rfl⟩

theorem last_facts {w : World} {v : Value} {path : List (List UInt8)} (hV : Digs w v path) (h1 : 1 ≤ path.length) :
    ∃ g o cap, v = .slice (some ⟨g, o, none⟩) path.length cap ∧ path.length ≤ cap ∧ g < w.heap.size ∧ (path.getD (path.length - 1) []).length = 32 ∧
      w.rangeAt g (o + (path.length - 1) * 32) ((path.getD (path.length - 1) []).map V8) ∧ Digs w (.slice (some ⟨g, o, none⟩) (path.length - 1) cap) (path.take (path.length - 1)) := by
  obtain ⟨g, o, cap, rfl, hcap, hg, hr⟩ := hV.pos (by omega)
  refine ⟨g, o, cap, rfl, hcap, hg, ?_, hr _ (by omega), hV.take _ (by omega)⟩
  rw [List.getD_eq_getElem?_getD, List.getElem?_eq_getElem (by omega)]
  exact hV.all _ (List.getElem_mem _)

set_option maxRecDepth 100000 in
set_option linter.unusedSimpArgs false in
set_option maxHeartbeats 1000000 in
theorem fromR_any (N : Nat) : ∀ (leaf : List UInt8) (i n : Nat) (path : List (List UInt8)) (v : Value) (w : World), leaf.length = 32 → n ≤ N → 1 ≤ n → n ≤ 1048576 → i < n → path.length = plong i n → Digs w v path →
    Calls Tryd.prog 52 #[Dv leaf, .int .i64 i, .int .i64 n, v] w fun e w' => e = .returned (Dv (pfrom leaf i n path)) ∧ Below w.heap.size w w' := by
  induction N with
  | zero => intro leaf i n path v w _ h1 h2; omega
  | succ N ih =>
    intro leaf i n path v w hlf hN h1 hmax hi hlen hV
    obtain ⟨la, hA, -, hal, hao⟩ := v8_list leaf hlf
    have HA := Lib.hid hA
    have hu := Lib.hid Tryd.underlying23
    have HI := Lib.hid (inf_size infR32 la hal)
    have HS := Lib.hid (st_size la hal)
    have HO := Lib.hid (all_oneCell_toArray hao)
    have h0 := Lib.hid (arr2 w 23 23 la (List.replicate 32 (V8 0)))
    by_cases h2 : n = 1
    · subst h2
      have e : pfrom leaf i 1 path = leaf := by rw [pfrom, if_neg (by omega)]
      rw [e, hA]
      clear ih hlen hA hao hal
      obtain ⟨av, cv, rfl⟩ := hV.shape
      clear hV
      go_enter Tryd.func52, Tryd.ntmps52
      go_wp2_with (first | ((with_reducible refine at_ld 23 (.tmp 4) ?_); refine wpList_load_row rfl 23 (.tmp 4) rfl w.heap.size rfl 23 la.toArray (0, 0) _ h0.out.1 hu.out rfl HI.out ?_) | ((with_reducible refine at_st 23 (.tmp 8) (.tmp 13) ?_); refine wpList_store_row rfl 23 (.tmp 8) (.tmp 13) rfl (w.heap.size + 1) la.toArray rfl rfl 23 _ h0.out.2.1 HI.out HS.out HO.out ?_))
      exact bodyPost_ret (v := .agg la.toArray) (results_cell_row rfl _ _ (w.heap.size + 1) 23 _ _ _ rfl (setRow_heap _ _ _ _ _ _ h0.out.2.1) hu.out rfl HI.out) rfl ⟨rfl, below_setRow h0.out.2.2 (by omega) _⟩
    · have h3 : 2 ≤ n := by omega
      have hp1 := lp_pos n
      have hp2 := lp_lt n h3
      have hl := leftR_any n h3 hmax
      have e : pfrom leaf i n path = if i < lp n then Sha.node (pfrom leaf i (lp n) (path.take (path.length - 1))) (path.getD (path.length - 1) []) else Sha.node (path.getD (path.length - 1) []) (pfrom leaf (i - lp n) (n - lp n) (path.take (path.length - 1))) := by
        rw [pfrom, if_pos h3]
      have hml0 : path.length < 1048576 := by have := plong_lt n i n (Nat.le_refl _) h1; omega
      have hlg : plong i n = 1 + (if i < lp n then plong i (lp n) else plong (i - lp n) (n - lp n)) := by rw [plong, if_pos h3]
      have hl1 : 1 ≤ path.length := by omega
      obtain ⟨g, o, cap, rfl, hcap, hg, hd, hr, hT⟩ := last_facts hV hl1
      have htl : (path.take (path.length - 1)).length = path.length - 1 := by rw [List.length_take]; omega
      rw [e]
      rw [hlg] at hlen
      clear e hlg hV
      generalize lp n = p at *
      generalize path.getD (path.length - 1) [] = d at *
      generalize path.take (path.length - 1) = rest at *
      generalize path.length = m at *
      obtain ⟨ld, hD, hldm, hdl, hdo⟩ := v8_list d hd
      rw [← hldm] at hr
      have HD := Lib.hid hD
      have HDI := Lib.hid (inf_size infR32 ld hdl)
      have hI := Lib.hid (show (Tryd.prog.info? 23).map (·.size) = some la.length by rw [hal]; exact infR32)
      have hDI := Lib.hid (show (Tryd.prog.info? 23).map (·.size) = some ld.length by rw [hdl]; exact infR32)
      have HDS := Lib.hid (st_size ld hdl)
      have HDO := Lib.hid (all_oneCell_toArray hdo)
      have cm : ((m - 1 : Nat) : Int) = (m : Int) - 1 := by omega
      have hm1 : m - 1 ≤ cap := by omega
      have hm2 : m - 1 < m := by omega
      have hm0 : (0 : Int) ≤ (m : Int) - 1 := by omega
      have hmt : ((m : Int) - 1).toNat = m - 1 := by omega
      have hml : (m : Int) - 1 < (m : Int) := by omega
      have hmc : (m : Int) - 1 ≤ (cap : Int) := by omega
      have hm3 : (1 : Int) ≤ (m : Int) := by omega
      have hw1 : IntKind.i64.wrap ((m : Int) - 1) = (m : Int) - 1 := IntWalk.i64_in _ (by omega)
      have hw2 : IntKind.i64.wrap ((i : Int) - (p : Int)) = (i : Int) - (p : Int) := IntWalk.i64_in _ (by omega)
      have hw3 : IntKind.i64.wrap ((n : Int) - (p : Int)) = (n : Int) - (p : Int) := IntWalk.i64_in _ (by omega)
      by_cases hc : i < p
      · rw [if_pos hc] at hlen ⊢
        have ihc := fun v w hV => ih leaf i p rest v w hlf (by omega) hp1 (by omega) hc (by omega) hV
        have hrl := pfrom_length leaf hlf i p rest
        rw [hA] at ihc
        generalize pfrom leaf i p rest = r at *
        have hxl := Sha.node_length r d
        have hnd := fun va vb hA hB w => nodeR_la r d hrl hd va vb hA hB w
        generalize Sha.node r d = x at *
        obtain ⟨lx, hX, -, hxx, hxo⟩ := v8_list x hxl
        have HX := Lib.hid hX
        have HXI := Lib.hid (inf_size infR32 lx hxx); have HXS := Lib.hid (st_size lx hxx); have HXO := Lib.hid (all_oneCell_toArray hxo)
        clear hX hxx hxo hxl
        rw [hA]
        have HR := Lib.hid hr
        have HT := Lib.hid hT
        clear hA hao hal hldm hdo hr hT ih hlen
        go_enter Tryd.func52, Tryd.ntmps52
        go_upto_region 3 with (fail)
        have ⟨k1, k2, k3⟩ := h0.out
        change Code.wp _ _ _ _ ((w.alloc (.cells la.toArray 23)).alloc (.cells (List.replicate 32 (V8 0)).toArray 23))
        have hs0 : ((w.alloc (.cells la.toArray 23)).alloc (.cells (List.replicate 32 (V8 0)).toArray 23)).heap.size = w.heap.size + 1 + 1 := by simp
        clear h0
        generalize (w.alloc (.cells la.toArray 23)).alloc (.cells (List.replicate 32 (V8 0)).toArray 23) = w0 at *
        have hr := range_below HR.out k3 hg
        have hT0 := HT.out.below k3 (Nat.le_refl _)
        have hg0 : g < w0.heap.size := by omega
        clear HR HT
        generalize hAe : w.heap.size = A at *
        refine wp_region_class 10 [8] [0, 1, 2, 3, 4, 5, 6, 7, 8, 9] (Below w0.heap.size w0) (Stable.below w0) (Below.refl _ _).drew (by kernel_rfl) (by kernel_rfl) ?_
        simp only [opsOf, List.getElem?_cons_succ, List.getElem?_cons_zero, List.drop_succ_cons, List.drop_zero]
        refine wpL_val ?v2 rfl (by rfl) (fun wq hq => ?y2) ?z2
        case y2 => go_simp; with_reducible rfl
        try simp only [Act.put, List.setIfInBounds_toArray, List.set_cons_zero, List.set_cons_succ]
        refine wpL_val ?v3 rfl (by rfl) (fun wq hq => ?y3) ?z3
        case y3 => go_simp; have hh := calls_same (hl wq); exact hh
        try simp only [Act.put, List.setIfInBounds_toArray, List.set_cons_zero, List.set_cons_succ]
        refine wpL_val ?v4 rfl (by rfl) (fun wq hq => ?y4) ?z4
        case y4 => go_simp; with_reducible rfl
        try simp only [Act.put, List.setIfInBounds_toArray, List.set_cons_zero, List.set_cons_succ]
        refine wpL_val ?v5 rfl (by rfl) (fun wq hq => ?y5) ?z5
        case y5 => go_simp; with_reducible rfl
        try simp only [Act.put, List.setIfInBounds_toArray, List.set_cons_zero, List.set_cons_succ]
        refine wpL_val ?v6 rfl (by rfl) (fun wq hq => ?y6) ?z6
        case y6 => go_simp; with_reducible rfl
        try simp only [Act.put, List.setIfInBounds_toArray, List.set_cons_zero, List.set_cons_succ]
        refine wpL_val ?v7 rfl (by rfl) (fun wq hq => ?y7) ?z7
        case y7 => go_simp; with_reducible rfl
        try simp only [Act.put, List.setIfInBounds_toArray, List.set_cons_zero, List.set_cons_succ]
        refine wpL_val ?v8 rfl (by rfl) (fun wq hq => ?y8) ?z8
        case y8 => go_simp; with_reducible rfl
        try simp only [Act.put, List.setIfInBounds_toArray, List.set_cons_zero, List.set_cons_succ]
        refine wpL_val (.agg ld.toArray) rfl (by rfl) (fun wq hq => quiet_ld 23 _ rfl _ _ rfl ld _ (range_below hr hq hg0) hu.out rfl hDI.out) ?_
        try simp only [Act.put, List.setIfInBounds_toArray, List.set_cons_zero, List.set_cons_succ]
        refine wpL_new (fun b => .pointer (some ⟨b, 0, none⟩)) (Z32 23) rfl (by rfl) (Stable.below w0) (fun _ h => h) (fun wq hq => ?ynew) (fun gl hgl => ?_)
        case ynew => go_simp; rfl
        try simp only [Act.put, List.setIfInBounds_toArray, List.set_cons_zero, List.set_cons_succ]
        refine wpL_val ?v10 rfl (by rfl) (fun wq hq => ?y10) ?z10
        case y10 => go_simp; with_reducible rfl
        try simp only [Act.put, List.setIfInBounds_toArray, List.set_cons_zero, List.set_cons_succ]
        refine wpL_nil ?_
        intro wt hwt
        have hgl2 : w0.heap.size ≤ gl := by obtain ⟨wx, hx, rfl⟩ := hgl; exact hx.size
        clear hgl
        have hF : Arr wt gl 23 (List.replicate 32 (V8 0)) := hwt.2.2
        have hwt1 := hwt.1
        clear hwt
        have hFS := hF.setRow ld.toArray
        have hB1 : Below w0.heap.size w0 (wt.setRow gl ld.toArray) := below_setRow hwt1 hgl2 _
        go_upto_region 4 with ((with_reducible refine at_st 23 (.tmp 10) (.tmp 21) ?_); refine wpList_store_row rfl 23 (.tmp 10) (.tmp 21) rfl gl ld.toArray rfl rfl 23 _ hF HDI.out HDS.out HDO.out ?_)
        change Arr (wt.setRow gl ld.toArray) gl 23 ld at hFS
        change Code.wp _ _ _ _ (wt.setRow gl ld.toArray)
        generalize wt.setRow gl ld.toArray = w1 at *
        have j1 := k1.below hB1 k1.lt
        have j2 := k2.below hB1 k2.lt
        have jB := k3.trans (hB1.mono (by omega))
        have jT := hT0.below hB1 (Nat.le_refl _)
        have jA : A + 1 < w1.heap.size := j2.lt
        have jG : gl < w1.heap.size := hFS.lt
        have jg : g < w1.heap.size := by have := hB1.size; omega
        clear k1 k2 k3 hT0 hB1 hF hwt1 hgl2 hg0 hg hs0
        go_upto_region 5 with (fail)
        have r1 := j1.range; have r3 := hFS.range
        refine wp_region_class 11 [] [0, 1, 2, 3, 4, 5, 6, 7, 8, 9, 10] (Below w1.heap.size w1) (Stable.below w1) (Below.refl _ _).drew (by kernel_rfl) (by kernel_rfl) ?_
        simp only [opsOf, List.getElem?_cons_succ, List.getElem?_cons_zero, List.drop_succ_cons, List.drop_zero]
        refine wpL_val (.agg la.toArray) rfl (by rfl) (fun wq hq => quiet_ld 23 _ rfl _ _ rfl la _ (range_below r1 hq (by omega)) hu.out rfl hI.out) ?_
        try simp only [Act.put, List.setIfInBounds_toArray, List.set_cons_zero, List.set_cons_succ]
        refine wpL_val ?v14 rfl (by rfl) (fun wq hq => ?y14) ?z14
        case y14 => go_simp; with_reducible rfl
        try simp only [Act.put, List.setIfInBounds_toArray, List.set_cons_zero, List.set_cons_succ]
        refine wpL_val ?v15 rfl (by rfl) (fun wq hq => ?y15) ?z15
        case y15 => go_simp; with_reducible rfl
        try simp only [Act.put, List.setIfInBounds_toArray, List.set_cons_zero, List.set_cons_succ]
        refine wpL_val ?v16 rfl (by rfl) (fun wq hq => ?y16) ?z16
        case y16 => go_simp; with_reducible rfl
        try simp only [Act.put, List.setIfInBounds_toArray, List.set_cons_zero, List.set_cons_succ]
        refine wpL_val ?v17 rfl (by rfl) (fun wq hq => ?y17) ?z17
        case y17 => go_simp; with_reducible rfl
        try simp only [Act.put, List.setIfInBounds_toArray, List.set_cons_zero, List.set_cons_succ]
        refine wpL_val ?v18 rfl (by rfl) (fun wq hq => ?y18) ?z18
        case y18 => go_simp; with_reducible rfl
        try simp only [Act.put, List.setIfInBounds_toArray, List.set_cons_zero, List.set_cons_succ]
        refine wpL_val ?v19 rfl (by rfl) (fun wq hq => ?y19) ?z19
        case y19 => go_simp; with_reducible rfl
        try simp only [Act.put, List.setIfInBounds_toArray, List.set_cons_zero, List.set_cons_succ]
        refine wpL_val ?v20 rfl (by rfl) (fun wq hq => ?y20) ?z20
        case y20 => go_simp; with_reducible rfl
        try simp only [Act.put, List.setIfInBounds_toArray, List.set_cons_zero, List.set_cons_succ]
        refine wpL_val ?v21 rfl (by rfl) (fun wq hq => ?y21) ?z21
        case y21 => go_simp; exact ihc _ _ (jT.below hq (Nat.le_refl _))
        try simp only [Act.put, List.setIfInBounds_toArray, List.set_cons_zero, List.set_cons_succ]
        refine wpL_val (.agg ld.toArray) rfl (by rfl) (fun wq hq => quiet_ld 23 _ rfl _ _ rfl ld _ (range_below r3 hq jG) hu.out rfl hDI.out) ?_
        try simp only [Act.put, List.setIfInBounds_toArray, List.set_cons_zero, List.set_cons_succ]
        refine wpL_val ?v23 rfl (by rfl) (fun wq hq => ?y23) ?z23
        case y23 => go_simp; exact hnd _ _ rfl HD.out _
        try simp only [Act.put, List.setIfInBounds_toArray, List.set_cons_zero, List.set_cons_succ]
        refine wpL_nil ?_
        intro wt hwt
        have q2 := j2.below hwt j2.lt
        have qB := jB.trans (hwt.mono (by have := jB.size; omega))
        rw [HX.out]
        go_wp2_with ((with_reducible refine at_st 23 (.tmp 8) (.tmp 35) ?_); refine wpList_store_row rfl 23 (.tmp 8) (.tmp 35) rfl (A + 1) lx.toArray rfl rfl 23 _ q2 HXI.out HXS.out HXO.out ?_)
        exact bodyPost_ret (v := .agg lx.toArray) (results_cell_row rfl _ _ (A + 1) 23 _ _ _ rfl (setRow_heap _ _ _ _ _ _ q2) hu.out rfl HXI.out) rfl ⟨by rw [HX.out], by (try rw [hAe]); exact below_setRow qB (by omega) _⟩
      · rw [if_neg hc] at hlen ⊢
        have ihc := fun v w hV => ih leaf (i - p) (n - p) rest v w hlf (by omega) (by omega) (by omega) (by omega) (by omega) hV
        have hrl := pfrom_length leaf hlf (i - p) (n - p) rest
        have c1 : ((i - p : Nat) : Int) = (i : Int) - (p : Int) := by omega
        have c2 : ((n - p : Nat) : Int) = (n : Int) - (p : Int) := by omega
        rw [hA, c1, c2] at ihc
        clear c1 c2
        generalize pfrom leaf (i - p) (n - p) rest = r at *
        have hxl := Sha.node_length d r
        have hnd := fun va vb hA hB w => nodeR_la d r hd hrl va vb hA hB w
        generalize Sha.node d r = x at *
        obtain ⟨lx, hX, -, hxx, hxo⟩ := v8_list x hxl
        have HX := Lib.hid hX
        have HXI := Lib.hid (inf_size infR32 lx hxx); have HXS := Lib.hid (st_size lx hxx); have HXO := Lib.hid (all_oneCell_toArray hxo)
        clear hX hxx hxo hxl
        rw [hA]
        have HR := Lib.hid hr
        have HT := Lib.hid hT
        clear hA hao hal hldm hdo hr hT ih hlen
        go_enter Tryd.func52, Tryd.ntmps52
        go_upto_region 3 with (fail)
        have ⟨k1, k2, k3⟩ := h0.out
        change Code.wp _ _ _ _ ((w.alloc (.cells la.toArray 23)).alloc (.cells (List.replicate 32 (V8 0)).toArray 23))
        have hs0 : ((w.alloc (.cells la.toArray 23)).alloc (.cells (List.replicate 32 (V8 0)).toArray 23)).heap.size = w.heap.size + 1 + 1 := by simp
        clear h0
        generalize (w.alloc (.cells la.toArray 23)).alloc (.cells (List.replicate 32 (V8 0)).toArray 23) = w0 at *
        have hr := range_below HR.out k3 hg
        have hT0 := HT.out.below k3 (Nat.le_refl _)
        have hg0 : g < w0.heap.size := by omega
        clear HR HT
        generalize hAe : w.heap.size = A at *
        refine wp_region_class 10 [8] [0, 1, 2, 3, 4, 5, 6, 7, 8, 9] (Below w0.heap.size w0) (Stable.below w0) (Below.refl _ _).drew (by kernel_rfl) (by kernel_rfl) ?_
        simp only [opsOf, List.getElem?_cons_succ, List.getElem?_cons_zero, List.drop_succ_cons, List.drop_zero]
        refine wpL_val ?v26 rfl (by rfl) (fun wq hq => ?y26) ?z26
        case y26 => go_simp; with_reducible rfl
        try simp only [Act.put, List.setIfInBounds_toArray, List.set_cons_zero, List.set_cons_succ]
        refine wpL_val ?v27 rfl (by rfl) (fun wq hq => ?y27) ?z27
        case y27 => go_simp; have hh := calls_same (hl wq); exact hh
        try simp only [Act.put, List.setIfInBounds_toArray, List.set_cons_zero, List.set_cons_succ]
        refine wpL_val ?v28 rfl (by rfl) (fun wq hq => ?y28) ?z28
        case y28 => go_simp; with_reducible rfl
        try simp only [Act.put, List.setIfInBounds_toArray, List.set_cons_zero, List.set_cons_succ]
        refine wpL_val ?v29 rfl (by rfl) (fun wq hq => ?y29) ?z29
        case y29 => go_simp; with_reducible rfl
        try simp only [Act.put, List.setIfInBounds_toArray, List.set_cons_zero, List.set_cons_succ]
        refine wpL_val ?v30 rfl (by rfl) (fun wq hq => ?y30) ?z30
        case y30 => go_simp; with_reducible rfl
        try simp only [Act.put, List.setIfInBounds_toArray, List.set_cons_zero, List.set_cons_succ]
        refine wpL_val ?v31 rfl (by rfl) (fun wq hq => ?y31) ?z31
        case y31 => go_simp; with_reducible rfl
        try simp only [Act.put, List.setIfInBounds_toArray, List.set_cons_zero, List.set_cons_succ]
        refine wpL_val ?v32 rfl (by rfl) (fun wq hq => ?y32) ?z32
        case y32 => go_simp; with_reducible rfl
        try simp only [Act.put, List.setIfInBounds_toArray, List.set_cons_zero, List.set_cons_succ]
        refine wpL_val (.agg ld.toArray) rfl (by rfl) (fun wq hq => quiet_ld 23 _ rfl _ _ rfl ld _ (range_below hr hq hg0) hu.out rfl hDI.out) ?_
        try simp only [Act.put, List.setIfInBounds_toArray, List.set_cons_zero, List.set_cons_succ]
        refine wpL_new (fun b => .pointer (some ⟨b, 0, none⟩)) (Z32 23) rfl (by rfl) (Stable.below w0) (fun _ h => h) (fun wq hq => ?ynew) (fun gl hgl => ?_)
        case ynew => go_simp; rfl
        try simp only [Act.put, List.setIfInBounds_toArray, List.set_cons_zero, List.set_cons_succ]
        refine wpL_val ?v34 rfl (by rfl) (fun wq hq => ?y34) ?z34
        case y34 => go_simp; with_reducible rfl
        try simp only [Act.put, List.setIfInBounds_toArray, List.set_cons_zero, List.set_cons_succ]
        refine wpL_nil ?_
        intro wt hwt
        have hgl2 : w0.heap.size ≤ gl := by obtain ⟨wx, hx, rfl⟩ := hgl; exact hx.size
        clear hgl
        have hF : Arr wt gl 23 (List.replicate 32 (V8 0)) := hwt.2.2
        have hwt1 := hwt.1
        clear hwt
        have hFS := hF.setRow ld.toArray
        have hB1 : Below w0.heap.size w0 (wt.setRow gl ld.toArray) := below_setRow hwt1 hgl2 _
        go_upto_region 4 with ((with_reducible refine at_st 23 (.tmp 10) (.tmp 21) ?_); refine wpList_store_row rfl 23 (.tmp 10) (.tmp 21) rfl gl ld.toArray rfl rfl 23 _ hF HDI.out HDS.out HDO.out ?_)
        change Arr (wt.setRow gl ld.toArray) gl 23 ld at hFS
        change Code.wp _ _ _ _ (wt.setRow gl ld.toArray)
        generalize wt.setRow gl ld.toArray = w1 at *
        have j1 := k1.below hB1 k1.lt
        have j2 := k2.below hB1 k2.lt
        have jB := k3.trans (hB1.mono (by omega))
        have jT := hT0.below hB1 (Nat.le_refl _)
        have jA : A + 1 < w1.heap.size := j2.lt
        have jG : gl < w1.heap.size := hFS.lt
        have jg : g < w1.heap.size := by have := hB1.size; omega
        clear k1 k2 k3 hT0 hB1 hF hwt1 hgl2 hg0 hg hs0
        go_upto_region 6 with (fail)
        have r1 := j1.range; have r3 := hFS.range
        refine wp_region_class 15 [] [0, 1, 2, 3, 4, 5, 6, 7, 8, 9, 10, 11, 12, 13, 14] (Below w1.heap.size w1) (Stable.below w1) (Below.refl _ _).drew (by kernel_rfl) (by kernel_rfl) ?_
        simp only [opsOf, List.getElem?_cons_succ, List.getElem?_cons_zero, List.drop_succ_cons, List.drop_zero]
        refine wpL_val (.agg ld.toArray) rfl (by rfl) (fun wq hq => quiet_ld 23 _ rfl _ _ rfl ld _ (range_below r3 hq jG) hu.out rfl hDI.out) ?_
        try simp only [Act.put, List.setIfInBounds_toArray, List.set_cons_zero, List.set_cons_succ]
        refine wpL_val (.agg la.toArray) rfl (by rfl) (fun wq hq => quiet_ld 23 _ rfl _ _ rfl la _ (range_below r1 hq (by omega)) hu.out rfl hI.out) ?_
        try simp only [Act.put, List.setIfInBounds_toArray, List.set_cons_zero, List.set_cons_succ]
        refine wpL_val ?v39 rfl (by rfl) (fun wq hq => ?y39) ?z39
        case y39 => go_simp; with_reducible rfl
        try simp only [Act.put, List.setIfInBounds_toArray, List.set_cons_zero, List.set_cons_succ]
        refine wpL_val ?v40 rfl (by rfl) (fun wq hq => ?y40) ?z40
        case y40 => go_simp; with_reducible rfl
        try simp only [Act.put, List.setIfInBounds_toArray, List.set_cons_zero, List.set_cons_succ]
        refine wpL_val ?v41 rfl (by rfl) (fun wq hq => ?y41) ?z41
        case y41 => go_simp; with_reducible rfl
        try simp only [Act.put, List.setIfInBounds_toArray, List.set_cons_zero, List.set_cons_succ]
        refine wpL_val ?v42 rfl (by rfl) (fun wq hq => ?y42) ?z42
        case y42 => go_simp; with_reducible rfl
        try simp only [Act.put, List.setIfInBounds_toArray, List.set_cons_zero, List.set_cons_succ]
        refine wpL_val ?v43 rfl (by rfl) (fun wq hq => ?y43) ?z43
        case y43 => go_simp; with_reducible rfl
        try simp only [Act.put, List.setIfInBounds_toArray, List.set_cons_zero, List.set_cons_succ]
        refine wpL_val ?v44 rfl (by rfl) (fun wq hq => ?y44) ?z44
        case y44 => go_simp; with_reducible rfl
        try simp only [Act.put, List.setIfInBounds_toArray, List.set_cons_zero, List.set_cons_succ]
        refine wpL_val ?v45 rfl (by rfl) (fun wq hq => ?y45) ?z45
        case y45 => go_simp; with_reducible rfl
        try simp only [Act.put, List.setIfInBounds_toArray, List.set_cons_zero, List.set_cons_succ]
        refine wpL_val ?v46 rfl (by rfl) (fun wq hq => ?y46) ?z46
        case y46 => go_simp; with_reducible rfl
        try simp only [Act.put, List.setIfInBounds_toArray, List.set_cons_zero, List.set_cons_succ]
        refine wpL_val ?v47 rfl (by rfl) (fun wq hq => ?y47) ?z47
        case y47 => go_simp; with_reducible rfl
        try simp only [Act.put, List.setIfInBounds_toArray, List.set_cons_zero, List.set_cons_succ]
        refine wpL_val ?v48 rfl (by rfl) (fun wq hq => ?y48) ?z48
        case y48 => go_simp; with_reducible rfl
        try simp only [Act.put, List.setIfInBounds_toArray, List.set_cons_zero, List.set_cons_succ]
        refine wpL_val ?v49 rfl (by rfl) (fun wq hq => ?y49) ?z49
        case y49 => go_simp; with_reducible rfl
        try simp only [Act.put, List.setIfInBounds_toArray, List.set_cons_zero, List.set_cons_succ]
        refine wpL_val ?v50 rfl (by rfl) (fun wq hq => ?y50) ?z50
        case y50 => go_simp; exact ihc _ _ (jT.below hq (Nat.le_refl _))
        try simp only [Act.put, List.setIfInBounds_toArray, List.set_cons_zero, List.set_cons_succ]
        refine wpL_val ?v51 rfl (by rfl) (fun wq hq => ?y51) ?z51
        case y51 => go_simp; exact hnd _ _ HD.out rfl _
        try simp only [Act.put, List.setIfInBounds_toArray, List.set_cons_zero, List.set_cons_succ]
        refine wpL_nil ?_
        intro wt hwt
        have q2 := j2.below hwt j2.lt
        have qB := jB.trans (hwt.mono (by have := jB.size; omega))
        rw [HX.out]
        go_wp2_with ((with_reducible refine at_st 23 (.tmp 8) (.tmp 50) ?_); refine wpList_store_row rfl 23 (.tmp 8) (.tmp 50) rfl (A + 1) lx.toArray rfl rfl 23 _ q2 HXI.out HXS.out HXO.out ?_)
        exact bodyPost_ret (v := .agg lx.toArray) (results_cell_row rfl _ _ (A + 1) 23 _ _ _ rfl (setRow_heap _ _ _ _ _ _ q2) hu.out rfl HXI.out) rfl ⟨by rw [HX.out], by (try rw [hAe]); exact below_setRow qB (by omega) _⟩
end Go.Proofs.YteehpfccegnjjaaDoor
