/-
  The contracts of the reference's extended and extends.
-/
import Derived.Test.YteehpfccegnjjaaDoorExt
namespace Go.Proofs.YteehpfccegnjjaaDoor
open Go Go.RowKit
theorem results_rr0 {P : Program} {fn : Func} {p q : Tmp} {ty ty2 : TypeId} (h : fn.results = #[.cell p ty, .cell q ty2]) (tmps : Array Value) (w : World) :
    (results fn tmps).run P w = ((asAddr (tmps.getD p undef)).run P w).andThen fun a w₁ => ((loadVar ty a).run P w₁).andThen fun x w₂ => ((asAddr (tmps.getD q undef)).run P w₂).andThen fun b w₃ => ((loadVar ty2 b).run P w₃).andThen fun y w₄ => .ok (.tuple #[x, y]) w₄ := by
  simp only [results, h]
  simp [Sem.run_bind, Result.andThen]
theorem results_rr {P : Program} {fn : Func} {p q : Tmp} {ty : TypeId} (h : fn.results = #[.cell p ty, .cell q ty]) (tmps : Array Value) (w : World) (g g2 : Nat) (t : TypeId) (cs cs2 : Array Value) (fr fr2 : Nat × Nat) (d : TypeDesc)
    (hp : tmps.getD p undef = .pointer (some ⟨g, 0, none⟩)) (hq : tmps.getD q undef = .pointer (some ⟨g2, 0, none⟩)) (hg : w.heap[g]? = some (.cells cs t fr)) (hg2 : w.heap[g2]? = some (.cells cs2 t fr2))
    (hu : P.underlying ty = some d) (hd : (match d with | .struct _ | .array _ _ => true | _ => false) = true) (hi : (P.info? ty).map (·.size) = some cs.size) (hi2 : (P.info? ty).map (·.size) = some cs2.size) :
    (results fn tmps).run P w = .ok (.tuple #[.agg cs, .agg cs2]) w := by
  rw [results_rr0 h, hp, hq]
  simp [asAddr, run_loadVar_row w g t ty cs fr d hg hu hd hi, run_loadVar_row w g2 t ty cs2 fr2 d hg2 hu hd hi2]
theorem pexl_le (N : Nat) : ∀ (m n : Nat) (whole : Bool), n ≤ N → pexl m n whole ≤ n + 1 := by
  induction N with
  | zero => intro m n whole h; rw [pexl]; split; (split <;> omega); rw [if_neg (by omega)]; omega
  | succ N ih =>
    intro m n whole h
    rw [pexl]
    split
    · split <;> omega
    · split
      · rename_i h2
        have hp1 := lp_pos n
        have hp2 := lp_lt n h2
        split
        · have := ih m (lp n) whole (by omega); omega
        · have := ih (m - lp n) (n - lp n) false (by omega); omega
      · omega
set_option maxRecDepth 100000 in
set_option maxHeartbeats 400000 in
theorem extended_any (N : Nat) : ∀ (m n : Nat) (whole : Bool) (w : World), n ≤ N → 1 ≤ m → m ≤ n → n ≤ 1048576 →
    Calls Tryd.prog 54 #[.int .i64 m, .int .i64 n, .bool whole] w fun e w' => e = .returned (.int .i64 (pexl m n whole)) ∧ w = w' := by
  induction N with
  | zero => intro m n whole w h1 h2; omega
  | succ N ih =>
    intro m n whole w hN h1 hmn hmax
    have hex : pexl m n whole = pexl m n whole := rfl
    conv at hex => rhs; rw [pexl]
    rw [hex]
    clear hex
    by_cases he : m = n
    · subst he
      rw [if_pos rfl]
      clear ih
      cases whole
      · go_enter Tryd.func54, Tryd.ntmps54
        go_wp2_with fail
        go_ret
        exact ⟨rfl, rfl⟩
      · go_enter Tryd.func54, Tryd.ntmps54
        go_wp2_with fail
        go_ret
        exact ⟨rfl, rfl⟩
    · have h3 : 2 ≤ n := by omega
      have hne : ¬ ((m : Int) = (n : Int)) := by omega
      rw [if_neg he, if_pos h3]
      have hp1 := lp_pos n
      have hp2 := lp_lt n h3
      have hl := leftR_any n h3 hmax
      generalize lp n = p at *
      by_cases hc : m ≤ p
      · rw [if_pos hc]
        have ih2 := fun w => ih m p whole w (by omega) h1 hc (by omega)
        have hq := pexl_le p m p whole (Nat.le_refl _)
        clear ih
        generalize pexl m p whole = q at *
        have hcc : (m : Int) ≤ (p : Int) := by omega
        go_enter Tryd.func54, Tryd.ntmps54
        go_wp2_with (first | (go_at_call 49; refine (hl _).mono ?_; rintro e w1 ⟨rfl, rfl⟩) | (go_at_call 54; refine (ih2 _).mono ?_; rintro e w1 ⟨rfl, rfl⟩))
        go_ret
        exact ⟨by congr 2, rfl⟩
      · rw [if_neg hc]
        have ih2 := fun w => ih (m - p) (n - p) false w (by omega) (by omega) (by omega) (by omega)
        have c1 : ((m - p : Nat) : Int) = (m : Int) - (p : Int) := by omega
        have c2 : ((n - p : Nat) : Int) = (n : Int) - (p : Int) := by omega
        rw [c1, c2] at ih2
        have hq := pexl_le (n - p) (m - p) (n - p) false (Nat.le_refl _)
        clear ih
        generalize pexl (m - p) (n - p) false = q at *
        have hcc : ¬ ((m : Int) ≤ (p : Int)) := by omega
        go_enter Tryd.func54, Tryd.ntmps54
        go_wp2_with (first | (go_at_call 49; refine (hl _).mono ?_; rintro e w1 ⟨rfl, rfl⟩) | (go_at_call 54; refine (ih2 _).mono ?_; rintro e w1 ⟨rfl, rfl⟩))
        go_ret
        exact ⟨by congr 2, rfl⟩

set_option maxRecDepth 100000 in
set_option linter.unusedSimpArgs false in
set_option maxHeartbeats 2000000 in
theorem extendsR_any (N : Nat) : ∀ (old : List UInt8) (m n : Nat) (whole : Bool) (path : List (List UInt8)) (v : Value) (w : World), old.length = 32 → n ≤ N → 1 ≤ m → m ≤ n → n ≤ 1048576 → path.length = pexl m n whole → Digs w v path →
    Calls Tryd.prog 55 #[Dv old, .int .i64 m, .int .i64 n, .bool whole, v] w fun e w' => e = .returned (.tuple #[Dv (pext old m n whole path).1, Dv (pext old m n whole path).2.1]) ∧ Below w.heap.size w w' := by
  induction N with
  | zero => intro old m n whole path v w _ h1 h2 h3; omega
  | succ N ih =>
    intro old m n whole path v w hlf hN h1 hmn hmax hlen hV
    obtain ⟨la, hA, -, hal, hao⟩ := v8_list old hlf
    have HA := Lib.hid hA
    have hu := Lib.hid Tryd.underlying23
    have la_HI := Lib.hid (inf_size infR32 la hal)
    have la_HS := Lib.hid (st_size la hal)
    have la_HO := Lib.hid (all_oneCell_toArray hao)
    have hI := Lib.hid (show (Tryd.prog.info? 23).map (·.size) = some la.length by rw [hal]; exact infR32)
    have h0 := Lib.hid (arr3 w 23 la (List.replicate 32 (V8 0)) (List.replicate 32 (V8 0)))
    have hex : pext old m n whole path = pext old m n whole path := rfl
    conv at hex => rhs; rw [pext]
    rw [hex]
    clear hex
    have hml0 : path.length ≤ 1048577 := by have := pexl_le n m n whole (Nat.le_refl _); omega
    rw [pexl] at hlen
    by_cases he : m = n
    · subst he
      rw [if_pos rfl] at hlen ⊢
      cases whole
      · simp only [Bool.false_eq_true, if_false] at hlen ⊢
        have hp1 := hlen
        rw [if_pos hp1]
        show Calls _ _ _ _ fun e w' => e = .returned (.tuple #[Dv (path.getD 0 []), Dv (path.getD 0 [])]) ∧ Below w.heap.size w w'
        obtain ⟨g, o, cap, rfl, hcap, hg, hr⟩ := hV.pos (by omega)
        have hr0 := hr 0 (by omega)
        have hd : (path.getD 0 []).length = 32 := by match path, hp1, hV with | [d], _, hV => exact hV.all d (by simp)
        rw [hp1]
        clear ih hV hr
        generalize path.getD 0 [] = d at *
        obtain ⟨ld, hD, hldm, hdl, hdo⟩ := v8_list d hd
        rw [← hldm, Nat.zero_mul, Nat.add_zero] at hr0
        have HR := Lib.hid hr0
        have ld_HI := Lib.hid (inf_size infR32 ld hdl); have ld_HS := Lib.hid (st_size ld hdl); have ld_HO := Lib.hid (all_oneCell_toArray hdo)
        have hDI := Lib.hid (show (Tryd.prog.info? 23).map (·.size) = some ld.length by rw [hdl]; exact infR32)
        rw [hA, hD]
        clear hA hao hal hldm hdl hdo hr0 hD hlen hp1 hcap hml0
        go_enter Tryd.func55, Tryd.ntmps55
        go_upto_region 4 with (fail)
        have ⟨f0, f1, f2, f3, f4⟩ := h0.out
        change Code.wp _ _ _ _ (((w.alloc (.cells la.toArray 23)).alloc (.cells (List.replicate 32 (V8 0)).toArray 23)).alloc (.cells (List.replicate 32 (V8 0)).toArray 23))
        clear h0
        generalize ((w.alloc (.cells la.toArray 23)).alloc (.cells (List.replicate 32 (V8 0)).toArray 23)).alloc (.cells (List.replicate 32 (V8 0)).toArray 23) = w0 at *
        have hr := range_below HR.out f3 hg
        clear HR
        generalize hAe : w.heap.size = A at *
        have hg0 : g < A + 1 := by omega
        refine wp_region_class2 7 [6] [0, 1, 2, 3, 4, 5, 6] (Below (A + 1) w0) (Below w0.heap.size w0) (Stable.below _) (fun _ h => h.mono (by omega)) (Below.refl _ _).drew (by kernel_rfl) (by kernel_rfl) ?_
        simp only [opsOf, List.getElem?_cons_succ, List.getElem?_cons_zero, List.drop_succ_cons, List.drop_zero]
        refine wpL_val ?v2 rfl (by rfl) (fun wq hq => ?y2) ?z2
        case y2 => go_simp; with_reducible rfl
        try simp only [Act.put, List.setIfInBounds_toArray, List.set_cons_zero, List.set_cons_succ]
        refine wpL_val ?v3 rfl (by rfl) (fun wq hq => ?y3) ?z3
        case y3 => go_simp; with_reducible rfl
        try simp only [Act.put, List.setIfInBounds_toArray, List.set_cons_zero, List.set_cons_succ]
        refine wpL_val (.agg ld.toArray) rfl (by rfl) (fun wq hq => quiet_ld 23 _ rfl _ _ rfl ld _ (range_below hr hq hg0) hu.out rfl hDI.out) ?_
        try simp only [Act.put, List.setIfInBounds_toArray, List.set_cons_zero, List.set_cons_succ]
        refine wpL_val ?v5 rfl (by rfl) (fun wq hq => ?y5) ?z5
        case y5 => go_simp; with_reducible rfl
        try simp only [Act.put, List.setIfInBounds_toArray, List.set_cons_zero, List.set_cons_succ]
        refine wpL_val ?v6 rfl (by rfl) (fun wq hq => ?y6) ?z6
        case y6 => go_simp; with_reducible rfl
        try simp only [Act.put, List.setIfInBounds_toArray, List.set_cons_zero, List.set_cons_succ]
        refine wpL_val (.agg ld.toArray) rfl (by rfl) (fun wq hq => quiet_ld 23 _ rfl _ _ rfl ld _ (range_below hr hq hg0) hu.out rfl hDI.out) ?_
        try simp only [Act.put, List.setIfInBounds_toArray, List.set_cons_zero, List.set_cons_succ]
        refine wpL_store rfl (by rfl) 23 (.tmp 10) (.tmp 26) rfl (A + 1) ld.toArray rfl rfl 23 _ (fun wq hq => f1.below hq f1.lt) ld_HI.out ld_HS.out ld_HO.out (Stable.belowAt (by omega)) (fun wq hq => below_setRow (hq.mono (by omega)) (by omega) _) ?_
        try simp only [Act.put, List.setIfInBounds_toArray, List.set_cons_zero, List.set_cons_succ]
        refine wpL_nil ?_
        intro wt hwt
        have e2 := arr_mid f2 hwt
        have e3 := below_mid (cs := ld.toArray) (by omega) hwt
        have e1 : Arr wt (A + 1) 23 ld := by
          obtain ⟨wx, hx, hy⟩ := hwt
          exact ((f1.below hx f1.lt).setRow ld.toArray).below hy (by have := (f1.below hx f1.lt).lt; simpa [World.setRow] using this)
        have e5 := e1.setRow_other (A + 1 + 1) ld.toArray (by omega)
        have e4 := f3.trans (e3.mono (by omega))
        clear hwt e3 f1 f2 f3
        go_wp2_with ((with_reducible refine at_st 23 (.tmp 11) (.tmp 29) ?_); refine wpList_store_row rfl 23 (.tmp 11) (.tmp 29) rfl (A + 1 + 1) ld.toArray rfl rfl 23 _ e2 ld_HI.out ld_HS.out ld_HO.out ?_)
        exact bodyPost_ret (v := .tuple #[.agg ld.toArray, .agg ld.toArray]) (results_rr rfl _ _ (A + 1) (A + 1 + 1) 23 _ _ _ _ _ rfl rfl e5 (setRow_heap _ _ _ _ _ _ e2) hu.out rfl ld_HI.out ld_HI.out) rfl ⟨rfl, by (try rw [hAe]); exact e4⟩
      · simp only [if_true]
        obtain ⟨av, cv, rfl⟩ := hV.shape
        show Calls _ _ _ _ fun e w' => e = .returned (.tuple #[Dv old, Dv old]) ∧ Below w.heap.size w w'
        rw [hA]
        clear ih hA hao hal hV hlen hml0
        generalize path.length = q at *
        go_enter Tryd.func55, Tryd.ntmps55
        go_upto_region 3 with (fail)
        have ⟨f0, f1, f2, f3, f4⟩ := h0.out
        change Code.wp _ _ _ _ (((w.alloc (.cells la.toArray 23)).alloc (.cells (List.replicate 32 (V8 0)).toArray 23)).alloc (.cells (List.replicate 32 (V8 0)).toArray 23))
        clear h0
        generalize ((w.alloc (.cells la.toArray 23)).alloc (.cells (List.replicate 32 (V8 0)).toArray 23)).alloc (.cells (List.replicate 32 (V8 0)).toArray 23) = w0 at *
        generalize hAe : w.heap.size = A at *
        have r0 := f0.range
        refine wp_region_class2 3 [2] [0, 1, 2] (Below (A + 1) w0) (Below w0.heap.size w0) (Stable.below _) (fun _ h => h.mono (by omega)) (Below.refl _ _).drew (by kernel_rfl) (by kernel_rfl) ?_
        simp only [opsOf, List.getElem?_cons_succ, List.getElem?_cons_zero, List.drop_succ_cons, List.drop_zero]
        refine wpL_val (.agg la.toArray) rfl (by rfl) (fun wq hq => quiet_ld 23 _ rfl _ _ rfl la _ (range_below r0 hq (by omega)) hu.out rfl hI.out) ?_
        try simp only [Act.put, List.setIfInBounds_toArray, List.set_cons_zero, List.set_cons_succ]
        refine wpL_val (.agg la.toArray) rfl (by rfl) (fun wq hq => quiet_ld 23 _ rfl _ _ rfl la _ (range_below r0 hq (by omega)) hu.out rfl hI.out) ?_
        try simp only [Act.put, List.setIfInBounds_toArray, List.set_cons_zero, List.set_cons_succ]
        refine wpL_store rfl (by rfl) 23 (.tmp 10) (.tmp 22) rfl (A + 1) la.toArray rfl rfl 23 _ (fun wq hq => f1.below hq f1.lt) la_HI.out la_HS.out la_HO.out (Stable.belowAt (by omega)) (fun wq hq => below_setRow (hq.mono (by omega)) (by omega) _) ?_
        try simp only [Act.put, List.setIfInBounds_toArray, List.set_cons_zero, List.set_cons_succ]
        refine wpL_nil ?_
        intro wt hwt
        have e2 := arr_mid f2 hwt
        have e3 := below_mid (cs := la.toArray) (by omega) hwt
        have e1 : Arr wt (A + 1) 23 la := by
          obtain ⟨wx, hx, hy⟩ := hwt
          exact ((f1.below hx f1.lt).setRow la.toArray).below hy (by have := (f1.below hx f1.lt).lt; simpa [World.setRow] using this)
        have e5 := e1.setRow_other (A + 1 + 1) la.toArray (by omega)
        have e4 := f3.trans (e3.mono (by omega))
        clear hwt e3 f1 f2 f3
        go_wp2_with ((with_reducible refine at_st 23 (.tmp 11) (.tmp 23) ?_); refine wpList_store_row rfl 23 (.tmp 11) (.tmp 23) rfl (A + 1 + 1) la.toArray rfl rfl 23 _ e2 la_HI.out la_HS.out la_HO.out ?_)
        exact bodyPost_ret (v := .tuple #[.agg la.toArray, .agg la.toArray]) (results_rr rfl _ _ (A + 1) (A + 1 + 1) 23 _ _ _ _ _ rfl rfl e5 (setRow_heap _ _ _ _ _ _ e2) hu.out rfl la_HI.out la_HI.out) rfl ⟨rfl, by (try rw [hAe]); exact e4⟩
    · have h3 : 2 ≤ n := by omega
      rw [if_neg he, if_pos h3] at hlen ⊢
      have hne : ¬ ((m : Int) = (n : Int)) := by omega
      have hm0 : ¬ path.length = 0 := by omega
      rw [if_neg hm0]
      have hp1 := lp_pos n
      have hp2 := lp_lt n h3
      have hl := leftR_any n h3 hmax
      obtain ⟨g, o, cap, rfl, hcap, hg, hd, hr, hT⟩ := last_facts hV (by omega)
      have htl : (path.take (path.length - 1)).length = path.length - 1 := by rw [List.length_take]; omega
      clear hV
      generalize lp n = p at *
      generalize path.getD (path.length - 1) [] = d at *
      generalize path.take (path.length - 1) = rest at *
      generalize path.length = q at *
      obtain ⟨ld, hD, hldm, hdl, hdo⟩ := v8_list d hd
      rw [← hldm] at hr
      have HD := Lib.hid hD
      have ld_HI := Lib.hid (inf_size infR32 ld hdl); have ld_HS := Lib.hid (st_size ld hdl); have ld_HO := Lib.hid (all_oneCell_toArray hdo)
      have hDI := Lib.hid (show (Tryd.prog.info? 23).map (·.size) = some ld.length by rw [hdl]; exact infR32)
      have hm1 : q - 1 ≤ cap := by omega
      have hm2 : q - 1 < q := by omega
      have hm00 : (0 : Int) ≤ (q : Int) - 1 := by omega
      have hmt : ((q : Int) - 1).toNat = q - 1 := by omega
      have hml : (q : Int) - 1 < (q : Int) := by omega
      have hmc : (q : Int) - 1 ≤ (cap : Int) := by omega
      have hm3 : (1 : Int) ≤ (q : Int) := by omega
      have hw1 : IntKind.i64.wrap ((q : Int) - 1) = (q : Int) - 1 := IntWalk.i64_in _ (by omega)
      by_cases hc : m ≤ p
      · rw [if_pos hc] at hlen ⊢
        have ihc := fun v w hV => ih old m p whole rest v w hlf (by omega) (by omega) (by omega) (by omega) (by omega) hV
        have hpl := pext_length p old m p whole rest (Nat.le_refl _) hlf hT.all
        rw [hA] at ihc
        generalize pext old m p whole rest = rr at *
        obtain ⟨ra, rb, ok⟩ := rr
        simp only at ihc hpl ⊢
        obtain ⟨lra, hRA, -, hral, hrao⟩ := v8_list ra hpl.1
        obtain ⟨lrb, hRB, -, hrbl, hrbo⟩ := v8_list rb hpl.2
        have HRA := Lib.hid hRA; have HRB := Lib.hid hRB
        have lra_HI := Lib.hid (inf_size infR32 lra hral); have lra_HS := Lib.hid (st_size lra hral); have lra_HO := Lib.hid (all_oneCell_toArray hrao)
        have lrb_HI := Lib.hid (inf_size infR32 lrb hrbl); have lrb_HS := Lib.hid (st_size lrb hrbl); have lrb_HO := Lib.hid (all_oneCell_toArray hrbo)
        have hRAI := Lib.hid (show (Tryd.prog.info? 23).map (·.size) = some lra.length by rw [hral]; exact infR32)
        have hRBI := Lib.hid (show (Tryd.prog.info? 23).map (·.size) = some lrb.length by rw [hrbl]; exact infR32)
        have hxl := Sha.node_length rb d
        have hnd := fun w => nodeR_la rb d hpl.2 hd _ _ hRB hD w
        generalize Sha.node rb d = x at *
        obtain ⟨lx, hX, -, hxx, hxo⟩ := v8_list x hxl
        have HX2 := Lib.hid hX
        have lx_HI := Lib.hid (inf_size infR32 lx hxx); have lx_HS := Lib.hid (st_size lx hxx); have lx_HO := Lib.hid (all_oneCell_toArray hxo)
        have HX1 := HRA
        rw [hA]
        clear hX hxx hxo hxl hRA hRB hral hrbl hrao hrbo hpl hA hao hal hldm hdo ih hlen
        have HR := Lib.hid hr
        have HT := Lib.hid hT
        clear hr hT
        go_enter Tryd.func55, Tryd.ntmps55
        go_upto_region 5 with (fail)
        have ⟨f0, f1, f2, f3, f4⟩ := h0.out
        change Code.wp _ _ _ _ (((w.alloc (.cells la.toArray 23)).alloc (.cells (List.replicate 32 (V8 0)).toArray 23)).alloc (.cells (List.replicate 32 (V8 0)).toArray 23))
        clear h0
        generalize ((w.alloc (.cells la.toArray 23)).alloc (.cells (List.replicate 32 (V8 0)).toArray 23)).alloc (.cells (List.replicate 32 (V8 0)).toArray 23) = w0 at *
        have hr := range_below HR.out f3 hg
        have hT0 := HT.out.below f3 (Nat.le_refl _)
        have hg0 : g < w0.heap.size := by omega
        clear HR HT
        generalize hAe : w.heap.size = A at *
        refine wp_region_class 10 [8] [0, 1, 2, 3, 4, 5, 6, 7, 8, 9] (Below w0.heap.size w0) (Stable.below w0) (Below.refl _ _).drew (by kernel_rfl) (by kernel_rfl) ?_
        simp only [opsOf, List.getElem?_cons_succ, List.getElem?_cons_zero, List.drop_succ_cons, List.drop_zero]
        refine wpL_val ?v14 rfl (by rfl) (fun wq hq => ?y14) ?z14
        case y14 => go_simp; with_reducible rfl
        try simp only [Act.put, List.setIfInBounds_toArray, List.set_cons_zero, List.set_cons_succ]
        refine wpL_val ?v15 rfl (by rfl) (fun wq hq => ?y15) ?z15
        case y15 => go_simp; have hh := calls_same (hl wq); exact hh
        try simp only [Act.put, List.setIfInBounds_toArray, List.set_cons_zero, List.set_cons_succ]
        refine wpL_val ?v16 rfl (by rfl) (fun wq hq => ?y16) ?z16
        case y16 => go_simp; with_reducible rfl
        try simp only [Act.put, List.setIfInBounds_toArray, List.set_cons_zero, List.set_cons_succ]
        refine wpL_val ?v17 rfl (by rfl) (fun wq hq => ?y17) ?z17
        case y17 => go_simp; with_reducible rfl
        try simp only [Act.put, List.setIfInBounds_toArray, List.set_cons_zero, List.set_cons_succ]
        refine wpL_val ?v18 rfl (by rfl) (fun wq hq => ?y18) ?z18
        case y18 => go_simp; with_reducible rfl
        try simp only [Act.put, List.setIfInBounds_toArray, List.set_cons_zero, List.set_cons_succ]
        refine wpL_val ?v19 rfl (by rfl) (fun wq hq => ?y19) ?z19
        case y19 => go_simp; with_reducible rfl
        try simp only [Act.put, List.setIfInBounds_toArray, List.set_cons_zero, List.set_cons_succ]
        refine wpL_val ?v20 rfl (by rfl) (fun wq hq => ?y20) ?z20
        case y20 => go_simp; with_reducible rfl
        try simp only [Act.put, List.setIfInBounds_toArray, List.set_cons_zero, List.set_cons_succ]
        refine wpL_val (.agg ld.toArray) rfl (by rfl) (fun wq hq => quiet_ld 23 _ rfl _ _ rfl ld _ (range_below hr hq hg0) hu.out rfl hDI.out) ?_
        try simp only [Act.put, List.setIfInBounds_toArray, List.set_cons_zero, List.set_cons_succ]
        refine wpL_new (fun b => .pointer (some ⟨b, 0, none⟩)) (Z32 23) rfl (by rfl) (Stable.below w0) (fun _ h => h) (fun wq hq => ?ynew) (fun gl hgl => ?_)
        case ynew => go_simp; rfl
        try simp only [Act.put, List.setIfInBounds_toArray, List.set_cons_zero, List.set_cons_succ]
        refine wpL_val ?v22 rfl (by rfl) (fun wq hq => ?y22) ?z22
        case y22 => go_simp; with_reducible rfl
        try simp only [Act.put, List.setIfInBounds_toArray, List.set_cons_zero, List.set_cons_succ]
        refine wpL_nil ?_
        intro wt hwt
        have hgl2 : w0.heap.size ≤ gl := by obtain ⟨wx, hx, rfl⟩ := hgl; exact hx.size
        clear hgl
        have hF : Arr wt gl 23 (List.replicate 32 (V8 0)) := hwt.2.2
        have hwt1 := hwt.1
        clear hwt
        have hFS := hF.setRow ld.toArray
        have hB1 : Below w0.heap.size w0 (wt.setRow gl ld.toArray) := below_setRow hwt1 hgl2 _
        go_upto_region 6 with ((with_reducible refine at_st 23 (.tmp 13) (.tmp 37) ?_); refine wpList_store_row rfl 23 (.tmp 13) (.tmp 37) rfl gl ld.toArray rfl rfl 23 _ hF ld_HI.out ld_HS.out ld_HO.out ?_)
        change Arr (wt.setRow gl ld.toArray) gl 23 ld at hFS
        change Code.wp _ _ _ _ (wt.setRow gl ld.toArray)
        generalize wt.setRow gl ld.toArray = w1 at *
        have j0 := f0.below hB1 f0.lt
        have j1 := f1.below hB1 f1.lt
        have j2 := f2.below hB1 f2.lt
        have jB := f3.trans (hB1.mono (by omega))
        have jT := hT0.below hB1 (Nat.le_refl _)
        have jG : gl < w1.heap.size := hFS.lt
        have j2lt : A + 1 + 1 < w1.heap.size := j2.lt
        have hglA : A + 1 + 1 < gl := by omega
        clear f0 f1 f2 f3 hT0 hB1 hF hwt1 hg0 hr
        go_upto_region 7 with (fail)
        have r0 := j0.range
        refine wp_region_held_drew (S := fun w' => Below w1.heap.size w1 w') (by kernel_rfl) (Below.refl _ _).drew (fun hH1 => ?_)
        generalize w1.drew = W1 at *
        refine wpAnyH_take (i := 0) rfl (by kernel_rfl) (by kernel_rfl) (by kernel_rfl) (fun _ _ _ h => h) (yieldsIf_load_mid (by rfl) _ _ rfl _ _ rfl la _ (fun w h => range_below r0 h (by omega)) hu.out rfl hI.out) hH1 ?_
        try simp only [Act.put, List.getElem_toArray, List.getElem_cons_succ, List.getElem_cons_zero, List.setIfInBounds_toArray, List.set_cons_zero, List.set_cons_succ]
        refine wpAnyH_take (i := 1) (v := ?tv2) rfl (by kernel_rfl) (by kernel_rfl) (by kernel_rfl) (fun _ _ _ h => h) (Or.inl ⟨by rfl, ?ty2⟩) hH1 ?tr2
        case ty2 => intro wq hq; go_simp; with_reducible rfl
        try simp only [Act.put, List.getElem_toArray, List.getElem_cons_succ, List.getElem_cons_zero, List.setIfInBounds_toArray, List.set_cons_zero, List.set_cons_succ]
        refine wpAnyH_take (i := 2) (v := ?tv3) rfl (by kernel_rfl) (by kernel_rfl) (by kernel_rfl) (fun _ _ _ h => h) (Or.inl ⟨by rfl, ?ty3⟩) hH1 ?tr3
        case ty3 => intro wq hq; go_simp; with_reducible rfl
        try simp only [Act.put, List.getElem_toArray, List.getElem_cons_succ, List.getElem_cons_zero, List.setIfInBounds_toArray, List.set_cons_zero, List.set_cons_succ]
        refine wpAnyH_take (i := 3) (v := ?tv4) rfl (by kernel_rfl) (by kernel_rfl) (by kernel_rfl) (fun _ _ _ h => h) (Or.inl ⟨by rfl, ?ty4⟩) hH1 ?tr4
        case ty4 => intro wq hq; go_simp; with_reducible rfl
        try simp only [Act.put, List.getElem_toArray, List.getElem_cons_succ, List.getElem_cons_zero, List.setIfInBounds_toArray, List.set_cons_zero, List.set_cons_succ]
        refine wpAnyH_take (i := 4) (v := ?tv5) rfl (by kernel_rfl) (by kernel_rfl) (by kernel_rfl) (fun _ _ _ h => h) (Or.inl ⟨by rfl, ?ty5⟩) hH1 ?tr5
        case ty5 => intro wq hq; go_simp; with_reducible rfl
        try simp only [Act.put, List.getElem_toArray, List.getElem_cons_succ, List.getElem_cons_zero, List.setIfInBounds_toArray, List.set_cons_zero, List.set_cons_succ]
        refine wpAnyH_take (i := 5) (v := ?tv6) rfl (by kernel_rfl) (by kernel_rfl) (by kernel_rfl) (fun _ _ _ h => h) (Or.inl ⟨by rfl, ?ty6⟩) hH1 ?tr6
        case ty6 => intro wq hq; go_simp; with_reducible rfl
        try simp only [Act.put, List.getElem_toArray, List.getElem_cons_succ, List.getElem_cons_zero, List.setIfInBounds_toArray, List.set_cons_zero, List.set_cons_succ]
        refine wpAnyH_take (i := 6) (v := ?tv7) rfl (by kernel_rfl) (by kernel_rfl) (by kernel_rfl) (fun _ _ _ h => h) (Or.inl ⟨by rfl, ?ty7⟩) hH1 ?tr7
        case ty7 => intro wq hq; go_simp; with_reducible rfl
        try simp only [Act.put, List.getElem_toArray, List.getElem_cons_succ, List.getElem_cons_zero, List.setIfInBounds_toArray, List.set_cons_zero, List.set_cons_succ]
        refine wpAnyH_take (i := 7) (v := ?tv8) rfl (by kernel_rfl) (by kernel_rfl) (by kernel_rfl) (fun _ _ _ h => h) (Or.inl ⟨by rfl, ?ty8⟩) hH1 ?tr8
        case ty8 => intro wq hq; go_simp; with_reducible rfl
        try simp only [Act.put, List.getElem_toArray, List.getElem_cons_succ, List.getElem_cons_zero, List.setIfInBounds_toArray, List.set_cons_zero, List.set_cons_succ]
        refine wpAnyH_take (i := 8) (v := ?tv9) rfl (by kernel_rfl) (by kernel_rfl) (by kernel_rfl) (fun _ _ _ h => h) (Or.inl ⟨by rfl, ?ty9⟩) hH1 ?tr9
        case ty9 => intro wq hq; go_simp; with_reducible rfl
        try simp only [Act.put, List.getElem_toArray, List.getElem_cons_succ, List.getElem_cons_zero, List.setIfInBounds_toArray, List.set_cons_zero, List.set_cons_succ]
        refine wpAnyH_ready (rs := [9, 13, 14]) (by kernel_rfl) (by simp) ?_
        refine AllReadyH.cons rfl (fun K hK => ?_) (AllReadyH.cons rfl (fun K hK => ?_) (AllReadyH.cons rfl (fun K hK => ?_) AllReadyH.nil))
        · rw [if_pos (by rfl)]
          go_simp
          refine (ihc _ _ (jT.below hH1 (Nat.le_refl _))).mono ?_
          rintro e W10 ⟨rfl, hb10⟩
          rw [HRA.out, HRB.out]
          refine hK.out _ _ (hH1.trans (hb10.mono hH1.size)) (fun hH10 => ?_)
          clear hK K
          try simp only [Act.put, List.getElem_toArray, List.getElem_cons_succ, List.getElem_cons_zero, List.setIfInBounds_toArray, List.set_cons_zero, List.set_cons_succ]
          clear hb10 hH1
          refine wpAnyH_take (i := 10) (v := ?tv11) rfl (by kernel_rfl) (by kernel_rfl) (by kernel_rfl) (fun _ _ _ h => h) (Or.inl ⟨by rfl, ?ty11⟩) hH10 ?tr11
          case ty11 => intro wq hq; go_simp; with_reducible rfl
          try simp only [Act.put, List.getElem_toArray, List.getElem_cons_succ, List.getElem_cons_zero, List.setIfInBounds_toArray, List.set_cons_zero, List.set_cons_succ]
          refine wpAnyH_take (i := 11) (v := ?tv12) rfl (by kernel_rfl) (by kernel_rfl) (by kernel_rfl) (fun _ _ _ h => h) (Or.inl ⟨by rfl, ?ty12⟩) hH10 ?tr12
          case ty12 => intro wq hq; go_simp; with_reducible rfl
          try simp only [Act.put, List.getElem_toArray, List.getElem_cons_succ, List.getElem_cons_zero, List.setIfInBounds_toArray, List.set_cons_zero, List.set_cons_succ]
          refine wpAnyH_take (i := 12) (v := ?tv13) rfl (by kernel_rfl) (by kernel_rfl) (by kernel_rfl) (fun _ _ _ h => h) (Or.inl ⟨by rfl, ?ty13⟩) hH10 ?tr13
          case ty13 => intro wq hq; go_simp; with_reducible rfl
          try simp only [Act.put, List.getElem_toArray, List.getElem_cons_succ, List.getElem_cons_zero, List.setIfInBounds_toArray, List.set_cons_zero, List.set_cons_succ]
          refine wpAnyH_ready (rs := [13, 14]) (by kernel_rfl) (by simp) ?_
          refine AllReadyH.cons rfl (fun K hK => ?_) (AllReadyH.cons rfl (fun K hK => ?_) AllReadyH.nil)
          · rw [if_pos (by rfl)]
            go_simp
            refine hK.out _ _ (hH10.alloc hH10.size (.cells (List.replicate 32 (V8 0)).toArray 23)) (fun hH14 => ?_)
            clear hK K
            try simp only [Act.put, List.getElem_toArray, List.getElem_cons_succ, List.getElem_cons_zero, List.setIfInBounds_toArray, List.set_cons_zero, List.set_cons_succ]
            have hA14 := Arr.new W10 23 (List.replicate 32 (V8 0))
            have hga : w1.heap.size ≤ W10.heap.size := hH10.size
            change wpAnyH _ _ _ _ _ _ _ _ (W10.alloc (.cells (List.replicate 32 (V8 0)).toArray 23))
            clear hH10
            change Below w1.heap.size w1 (W10.alloc (.cells (List.replicate 32 (V8 0)).toArray 23)) at hH14
            generalize W10.alloc (.cells (List.replicate 32 (V8 0)).toArray 23) = W14 at *
            generalize W10.heap.size = ga at *
            refine wpAnyH_ready (rs := [14]) (by kernel_rfl) (by simp) ?_
            refine AllReadyH.cons rfl (fun K hK => ?_) AllReadyH.nil
            · rw [if_pos (by rfl)]
              go_simp
              refine hK.out _ _ (hH14.alloc hH14.size (.cells (List.replicate 32 (V8 0)).toArray 23)) (fun hH15 => ?_)
              clear hK K
              try simp only [Act.put, List.getElem_toArray, List.getElem_cons_succ, List.getElem_cons_zero, List.setIfInBounds_toArray, List.set_cons_zero, List.set_cons_succ]
              have hB15 := Arr.new W14 23 (List.replicate 32 (V8 0))
              have hA15 := hA14.alloc (.cells (List.replicate 32 (V8 0)).toArray 23)
              have hgne : ga < W14.heap.size := hA14.lt
              clear hA14
              have hgb : w1.heap.size ≤ W14.heap.size := hH14.size
              change wpAnyH _ _ _ _ _ _ _ _ (W14.alloc (.cells (List.replicate 32 (V8 0)).toArray 23))
              clear hH14
              change Below w1.heap.size w1 (W14.alloc (.cells (List.replicate 32 (V8 0)).toArray 23)) at hH15
              generalize W14.alloc (.cells (List.replicate 32 (V8 0)).toArray 23) = W15 at *
              generalize W14.heap.size = gb at *
              refine wpAnyH_ready (rs := [15]) (by kernel_rfl) (by simp) ?_
              refine AllReadyH.cons rfl (fun K hK => ?_) AllReadyH.nil
              · rw [if_pos (by rfl)]
                refine wp_store_row 23 (.tmp 14) (.tmp 52) rfl ga lra.toArray rfl rfl 23 _ hA15 lra_HI.out lra_HS.out lra_HO.out ?_
                refine hK.out _ _ (below_setRow hH15 (by omega) _) (fun hH16 => ?_)
                clear hK K
                try simp only [Act.put, List.getElem_toArray, List.getElem_cons_succ, List.getElem_cons_zero, List.setIfInBounds_toArray, List.set_cons_zero, List.set_cons_succ]
                have hA16 := hA15.setRow lra.toArray; have hB16 := hB15.setRow_other ga lra.toArray (by omega)
                change Arr (W15.setRow ga lra.toArray) ga 23 lra at hA16
                change wpAnyH _ _ _ _ _ _ _ _ (W15.setRow ga lra.toArray)
                change Below w1.heap.size w1 (W15.setRow ga lra.toArray) at hH16
                clear hA15 hB15 hH15
                generalize W15.setRow ga lra.toArray = W16 at *
                refine wpAnyH_ready (rs := [16]) (by kernel_rfl) (by simp) ?_
                refine AllReadyH.cons rfl (fun K hK => ?_) AllReadyH.nil
                · rw [if_pos (by rfl)]
                  refine wp_store_row 23 (.tmp 15) (.tmp 53) rfl gb lrb.toArray rfl rfl 23 _ hB16 lrb_HI.out lrb_HS.out lrb_HO.out ?_
                  refine hK.out _ _ (below_setRow hH16 (by omega) _) (fun hH17 => ?_)
                  clear hK K
                  try simp only [Act.put, List.getElem_toArray, List.getElem_cons_succ, List.getElem_cons_zero, List.setIfInBounds_toArray, List.set_cons_zero, List.set_cons_succ]
                  have hB17 := hB16.setRow lrb.toArray; have hA17 := hA16.setRow_other gb lrb.toArray (by omega)
                  change Arr (W16.setRow gb lrb.toArray) gb 23 lrb at hB17
                  change wpAnyH _ _ _ _ _ _ _ _ (W16.setRow gb lrb.toArray)
                  change Below w1.heap.size w1 (W16.setRow gb lrb.toArray) at hH17
                  clear hA16 hB16 hH16
                  generalize W16.setRow gb lrb.toArray = W17 at *
                  refine wpAnyH_done (by kernel_rfl) ?_ _
                  simp only [List.getElem_toArray, List.getElem_cons_succ, List.getElem_cons_zero, Exit.then, Act.put, List.setIfInBounds_toArray, List.set_cons_zero, List.set_cons_succ]
                  go_at_K
                  have hX := hH17; have xA := hA17; have xB := hB17
                  clear hH17 hA17 hB17
                  generalize W17 = wx at *
                  go_upto_region 8 with (fail)
                  have xL := hFS.below hX jG
                  have x1 := j1.below hX j1.lt
                  have x2 := j2.below hX j2.lt
                  have xBw := jB.trans (hX.mono (by have := jB.size; omega))
                  have rA := xA.range; have rB := xB.range; have rL := xL.range
                  have lA := xA.lt; have lB := xB.lt; have lL := xL.lt
                  refine wp_region_class 4 [] [0, 1, 2, 3] (Below wx.heap.size wx) (Stable.below wx) (Below.refl _ _).drew (by kernel_rfl) (by kernel_rfl) ?_
                  simp only [opsOf, List.getElem?_cons_succ, List.getElem?_cons_zero, List.drop_succ_cons, List.drop_zero]
                  refine wpL_val (.agg lra.toArray) rfl (by rfl) (fun wq hq => quiet_ld 23 _ rfl _ _ rfl lra _ (range_below rA hq lA) hu.out rfl hRAI.out) ?_
                  try simp only [Act.put, List.setIfInBounds_toArray, List.set_cons_zero, List.set_cons_succ]
                  refine wpL_val (.agg lrb.toArray) rfl (by rfl) (fun wq hq => quiet_ld 23 _ rfl _ _ rfl lrb _ (range_below rB hq lB) hu.out rfl hRBI.out) ?_
                  try simp only [Act.put, List.setIfInBounds_toArray, List.set_cons_zero, List.set_cons_succ]
                  refine wpL_val (.agg ld.toArray) rfl (by rfl) (fun wq hq => quiet_ld 23 _ rfl _ _ rfl ld _ (range_below rL hq lL) hu.out rfl hDI.out) ?_
                  try simp only [Act.put, List.setIfInBounds_toArray, List.set_cons_zero, List.set_cons_succ]
                  refine wpL_val ?v28 rfl (by rfl) (fun wq hq => ?y28) ?z28
                  case y28 => go_simp; exact hnd _
                  try simp only [Act.put, List.setIfInBounds_toArray, List.set_cons_zero, List.set_cons_succ]
                  refine wpL_nil ?_
                  intro wt hwt
                  have y1 := x1.below hwt x1.lt
                  have y2 := x2.below hwt x2.lt
                  have yB := xBw.trans (hwt.mono (by have := xBw.size; omega))
                  have s1 := y1.setRow lra.toArray
                  have s2 := y2.setRow_other (A + 1) lra.toArray (by omega)
                  have t1 := s1.setRow_other (A + 1 + 1) lx.toArray (by omega)
                  have tB : Below A w ((wt.setRow (A + 1) lra.toArray).setRow (A + 1 + 1) lx.toArray) := below_setRow (below_setRow yB (by omega) _) (by omega) _
                  (try rw [HX1.out]); (try rw [HX2.out])
                  go_wp2_with (first | ((with_reducible refine at_st 23 (.tmp 10) (.tmp 54) ?_); refine wpList_store_row rfl 23 (.tmp 10) (.tmp 54) rfl (A + 1) lra.toArray rfl rfl 23 _ y1 lra_HI.out lra_HS.out lra_HO.out ?_) | ((with_reducible refine at_st 23 (.tmp 11) (.tmp 57) ?_); refine wpList_store_row rfl 23 (.tmp 11) (.tmp 57) rfl (A + 1 + 1) lx.toArray rfl rfl 23 _ s2 lx_HI.out lx_HS.out lx_HO.out ?_))
                  exact bodyPost_ret (v := .tuple #[.agg lra.toArray, .agg lx.toArray]) (results_rr rfl _ _ (A + 1) (A + 1 + 1) 23 _ _ _ _ _ rfl rfl t1 (setRow_heap _ _ _ _ _ _ s2) hu.out rfl lra_HI.out lx_HI.out) rfl ⟨by simp only [HX1.out, HX2.out], by (try rw [hAe]); exact tB⟩
          · rw [if_pos (by rfl)]
            go_simp
            refine hK.out _ _ (hH10.alloc hH10.size (.cells (List.replicate 32 (V8 0)).toArray 23)) (fun hH18 => ?_)
            clear hK K
            try simp only [Act.put, List.getElem_toArray, List.getElem_cons_succ, List.getElem_cons_zero, List.setIfInBounds_toArray, List.set_cons_zero, List.set_cons_succ]
            have hB18 := Arr.new W10 23 (List.replicate 32 (V8 0))
            have hgb : w1.heap.size ≤ W10.heap.size := hH10.size
            change wpAnyH _ _ _ _ _ _ _ _ (W10.alloc (.cells (List.replicate 32 (V8 0)).toArray 23))
            clear hH10
            change Below w1.heap.size w1 (W10.alloc (.cells (List.replicate 32 (V8 0)).toArray 23)) at hH18
            generalize W10.alloc (.cells (List.replicate 32 (V8 0)).toArray 23) = W18 at *
            generalize W10.heap.size = gb at *
            refine wpAnyH_ready (rs := [13]) (by kernel_rfl) (by simp) ?_
            refine AllReadyH.cons rfl (fun K hK => ?_) AllReadyH.nil
            · rw [if_pos (by rfl)]
              go_simp
              refine hK.out _ _ (hH18.alloc hH18.size (.cells (List.replicate 32 (V8 0)).toArray 23)) (fun hH19 => ?_)
              clear hK K
              try simp only [Act.put, List.getElem_toArray, List.getElem_cons_succ, List.getElem_cons_zero, List.setIfInBounds_toArray, List.set_cons_zero, List.set_cons_succ]
              have hA19 := Arr.new W18 23 (List.replicate 32 (V8 0))
              have hB19 := hB18.alloc (.cells (List.replicate 32 (V8 0)).toArray 23)
              have hgne : gb < W18.heap.size := hB18.lt
              clear hB18
              have hga : w1.heap.size ≤ W18.heap.size := hH18.size
              change wpAnyH _ _ _ _ _ _ _ _ (W18.alloc (.cells (List.replicate 32 (V8 0)).toArray 23))
              clear hH18
              change Below w1.heap.size w1 (W18.alloc (.cells (List.replicate 32 (V8 0)).toArray 23)) at hH19
              generalize W18.alloc (.cells (List.replicate 32 (V8 0)).toArray 23) = W19 at *
              generalize W18.heap.size = ga at *
              refine wpAnyH_ready (rs := [15]) (by kernel_rfl) (by simp) ?_
              refine AllReadyH.cons rfl (fun K hK => ?_) AllReadyH.nil
              · rw [if_pos (by rfl)]
                refine wp_store_row 23 (.tmp 14) (.tmp 52) rfl ga lra.toArray rfl rfl 23 _ hA19 lra_HI.out lra_HS.out lra_HO.out ?_
                refine hK.out _ _ (below_setRow hH19 (by omega) _) (fun hH20 => ?_)
                clear hK K
                try simp only [Act.put, List.getElem_toArray, List.getElem_cons_succ, List.getElem_cons_zero, List.setIfInBounds_toArray, List.set_cons_zero, List.set_cons_succ]
                have hA20 := hA19.setRow lra.toArray; have hB20 := hB19.setRow_other ga lra.toArray (by omega)
                change Arr (W19.setRow ga lra.toArray) ga 23 lra at hA20
                change wpAnyH _ _ _ _ _ _ _ _ (W19.setRow ga lra.toArray)
                change Below w1.heap.size w1 (W19.setRow ga lra.toArray) at hH20
                clear hA19 hB19 hH19
                generalize W19.setRow ga lra.toArray = W20 at *
                refine wpAnyH_ready (rs := [16]) (by kernel_rfl) (by simp) ?_
                refine AllReadyH.cons rfl (fun K hK => ?_) AllReadyH.nil
                · rw [if_pos (by rfl)]
                  refine wp_store_row 23 (.tmp 15) (.tmp 53) rfl gb lrb.toArray rfl rfl 23 _ hB20 lrb_HI.out lrb_HS.out lrb_HO.out ?_
                  refine hK.out _ _ (below_setRow hH20 (by omega) _) (fun hH21 => ?_)
                  clear hK K
                  try simp only [Act.put, List.getElem_toArray, List.getElem_cons_succ, List.getElem_cons_zero, List.setIfInBounds_toArray, List.set_cons_zero, List.set_cons_succ]
                  have hB21 := hB20.setRow lrb.toArray; have hA21 := hA20.setRow_other gb lrb.toArray (by omega)
                  change Arr (W20.setRow gb lrb.toArray) gb 23 lrb at hB21
                  change wpAnyH _ _ _ _ _ _ _ _ (W20.setRow gb lrb.toArray)
                  change Below w1.heap.size w1 (W20.setRow gb lrb.toArray) at hH21
                  clear hA20 hB20 hH20
                  generalize W20.setRow gb lrb.toArray = W21 at *
                  refine wpAnyH_done (by kernel_rfl) ?_ _
                  simp only [List.getElem_toArray, List.getElem_cons_succ, List.getElem_cons_zero, Exit.then, Act.put, List.setIfInBounds_toArray, List.set_cons_zero, List.set_cons_succ]
                  go_at_K
                  have hX := hH21; have xA := hA21; have xB := hB21
                  clear hH21 hA21 hB21
                  generalize W21 = wx at *
                  go_upto_region 8 with (fail)
                  have xL := hFS.below hX jG
                  have x1 := j1.below hX j1.lt
                  have x2 := j2.below hX j2.lt
                  have xBw := jB.trans (hX.mono (by have := jB.size; omega))
                  have rA := xA.range; have rB := xB.range; have rL := xL.range
                  have lA := xA.lt; have lB := xB.lt; have lL := xL.lt
                  refine wp_region_class 4 [] [0, 1, 2, 3] (Below wx.heap.size wx) (Stable.below wx) (Below.refl _ _).drew (by kernel_rfl) (by kernel_rfl) ?_
                  simp only [opsOf, List.getElem?_cons_succ, List.getElem?_cons_zero, List.drop_succ_cons, List.drop_zero]
                  refine wpL_val (.agg lra.toArray) rfl (by rfl) (fun wq hq => quiet_ld 23 _ rfl _ _ rfl lra _ (range_below rA hq lA) hu.out rfl hRAI.out) ?_
                  try simp only [Act.put, List.setIfInBounds_toArray, List.set_cons_zero, List.set_cons_succ]
                  refine wpL_val (.agg lrb.toArray) rfl (by rfl) (fun wq hq => quiet_ld 23 _ rfl _ _ rfl lrb _ (range_below rB hq lB) hu.out rfl hRBI.out) ?_
                  try simp only [Act.put, List.setIfInBounds_toArray, List.set_cons_zero, List.set_cons_succ]
                  refine wpL_val (.agg ld.toArray) rfl (by rfl) (fun wq hq => quiet_ld 23 _ rfl _ _ rfl ld _ (range_below rL hq lL) hu.out rfl hDI.out) ?_
                  try simp only [Act.put, List.setIfInBounds_toArray, List.set_cons_zero, List.set_cons_succ]
                  refine wpL_val ?v34 rfl (by rfl) (fun wq hq => ?y34) ?z34
                  case y34 => go_simp; exact hnd _
                  try simp only [Act.put, List.setIfInBounds_toArray, List.set_cons_zero, List.set_cons_succ]
                  refine wpL_nil ?_
                  intro wt hwt
                  have y1 := x1.below hwt x1.lt
                  have y2 := x2.below hwt x2.lt
                  have yB := xBw.trans (hwt.mono (by have := xBw.size; omega))
                  have s1 := y1.setRow lra.toArray
                  have s2 := y2.setRow_other (A + 1) lra.toArray (by omega)
                  have t1 := s1.setRow_other (A + 1 + 1) lx.toArray (by omega)
                  have tB : Below A w ((wt.setRow (A + 1) lra.toArray).setRow (A + 1 + 1) lx.toArray) := below_setRow (below_setRow yB (by omega) _) (by omega) _
                  (try rw [HX1.out]); (try rw [HX2.out])
                  go_wp2_with (first | ((with_reducible refine at_st 23 (.tmp 10) (.tmp 54) ?_); refine wpList_store_row rfl 23 (.tmp 10) (.tmp 54) rfl (A + 1) lra.toArray rfl rfl 23 _ y1 lra_HI.out lra_HS.out lra_HO.out ?_) | ((with_reducible refine at_st 23 (.tmp 11) (.tmp 57) ?_); refine wpList_store_row rfl 23 (.tmp 11) (.tmp 57) rfl (A + 1 + 1) lx.toArray rfl rfl 23 _ s2 lx_HI.out lx_HS.out lx_HO.out ?_))
                  exact bodyPost_ret (v := .tuple #[.agg lra.toArray, .agg lx.toArray]) (results_rr rfl _ _ (A + 1) (A + 1 + 1) 23 _ _ _ _ _ rfl rfl t1 (setRow_heap _ _ _ _ _ _ s2) hu.out rfl lra_HI.out lx_HI.out) rfl ⟨by simp only [HX1.out, HX2.out], by (try rw [hAe]); exact tB⟩
        · rw [if_pos (by rfl)]
          go_simp
          refine hK.out _ _ (hH1.alloc hH1.size (.cells (List.replicate 32 (V8 0)).toArray 23)) (fun hH22 => ?_)
          clear hK K
          try simp only [Act.put, List.getElem_toArray, List.getElem_cons_succ, List.getElem_cons_zero, List.setIfInBounds_toArray, List.set_cons_zero, List.set_cons_succ]
          have hA22 := Arr.new W1 23 (List.replicate 32 (V8 0))
          have hga : w1.heap.size ≤ W1.heap.size := hH1.size
          change wpAnyH _ _ _ _ _ _ _ _ (W1.alloc (.cells (List.replicate 32 (V8 0)).toArray 23))
          clear hH1
          change Below w1.heap.size w1 (W1.alloc (.cells (List.replicate 32 (V8 0)).toArray 23)) at hH22
          generalize W1.alloc (.cells (List.replicate 32 (V8 0)).toArray 23) = W22 at *
          generalize W1.heap.size = ga at *
          refine wpAnyH_ready (rs := [9, 14]) (by kernel_rfl) (by simp) ?_
          refine AllReadyH.cons rfl (fun K hK => ?_) (AllReadyH.cons rfl (fun K hK => ?_) AllReadyH.nil)
          · rw [if_pos (by rfl)]
            go_simp
            refine (ihc _ _ (jT.below hH22 (Nat.le_refl _))).mono ?_
            rintro e W23 ⟨rfl, hb23⟩
            rw [HRA.out, HRB.out]
            refine hK.out _ _ (hH22.trans (hb23.mono hH22.size)) (fun hH23 => ?_)
            clear hK K
            try simp only [Act.put, List.getElem_toArray, List.getElem_cons_succ, List.getElem_cons_zero, List.setIfInBounds_toArray, List.set_cons_zero, List.set_cons_succ]
            have hA23 := hA22.below hb23 hA22.lt; clear hA22
            clear hb23 hH22
            refine wpAnyH_take (i := 10) (v := ?tv24) rfl (by kernel_rfl) (by kernel_rfl) (by kernel_rfl) (fun _ _ _ h => h) (Or.inl ⟨by rfl, ?ty24⟩) hH23 ?tr24
            case ty24 => intro wq hq; go_simp; with_reducible rfl
            try simp only [Act.put, List.getElem_toArray, List.getElem_cons_succ, List.getElem_cons_zero, List.setIfInBounds_toArray, List.set_cons_zero, List.set_cons_succ]
            refine wpAnyH_take (i := 11) (v := ?tv25) rfl (by kernel_rfl) (by kernel_rfl) (by kernel_rfl) (fun _ _ _ h => h) (Or.inl ⟨by rfl, ?ty25⟩) hH23 ?tr25
            case ty25 => intro wq hq; go_simp; with_reducible rfl
            try simp only [Act.put, List.getElem_toArray, List.getElem_cons_succ, List.getElem_cons_zero, List.setIfInBounds_toArray, List.set_cons_zero, List.set_cons_succ]
            refine wpAnyH_take (i := 12) (v := ?tv26) rfl (by kernel_rfl) (by kernel_rfl) (by kernel_rfl) (fun _ _ _ h => h) (Or.inl ⟨by rfl, ?ty26⟩) hH23 ?tr26
            case ty26 => intro wq hq; go_simp; with_reducible rfl
            try simp only [Act.put, List.getElem_toArray, List.getElem_cons_succ, List.getElem_cons_zero, List.setIfInBounds_toArray, List.set_cons_zero, List.set_cons_succ]
            refine wpAnyH_ready (rs := [14]) (by kernel_rfl) (by simp) ?_
            refine AllReadyH.cons rfl (fun K hK => ?_) AllReadyH.nil
            · rw [if_pos (by rfl)]
              go_simp
              refine hK.out _ _ (hH23.alloc hH23.size (.cells (List.replicate 32 (V8 0)).toArray 23)) (fun hH27 => ?_)
              clear hK K
              try simp only [Act.put, List.getElem_toArray, List.getElem_cons_succ, List.getElem_cons_zero, List.setIfInBounds_toArray, List.set_cons_zero, List.set_cons_succ]
              have hB27 := Arr.new W23 23 (List.replicate 32 (V8 0))
              have hA27 := hA23.alloc (.cells (List.replicate 32 (V8 0)).toArray 23)
              have hgne : ga < W23.heap.size := hA23.lt
              clear hA23
              have hgb : w1.heap.size ≤ W23.heap.size := hH23.size
              change wpAnyH _ _ _ _ _ _ _ _ (W23.alloc (.cells (List.replicate 32 (V8 0)).toArray 23))
              clear hH23
              change Below w1.heap.size w1 (W23.alloc (.cells (List.replicate 32 (V8 0)).toArray 23)) at hH27
              generalize W23.alloc (.cells (List.replicate 32 (V8 0)).toArray 23) = W27 at *
              generalize W23.heap.size = gb at *
              refine wpAnyH_ready (rs := [15]) (by kernel_rfl) (by simp) ?_
              refine AllReadyH.cons rfl (fun K hK => ?_) AllReadyH.nil
              · rw [if_pos (by rfl)]
                refine wp_store_row 23 (.tmp 14) (.tmp 52) rfl ga lra.toArray rfl rfl 23 _ hA27 lra_HI.out lra_HS.out lra_HO.out ?_
                refine hK.out _ _ (below_setRow hH27 (by omega) _) (fun hH28 => ?_)
                clear hK K
                try simp only [Act.put, List.getElem_toArray, List.getElem_cons_succ, List.getElem_cons_zero, List.setIfInBounds_toArray, List.set_cons_zero, List.set_cons_succ]
                have hA28 := hA27.setRow lra.toArray; have hB28 := hB27.setRow_other ga lra.toArray (by omega)
                change Arr (W27.setRow ga lra.toArray) ga 23 lra at hA28
                change wpAnyH _ _ _ _ _ _ _ _ (W27.setRow ga lra.toArray)
                change Below w1.heap.size w1 (W27.setRow ga lra.toArray) at hH28
                clear hA27 hB27 hH27
                generalize W27.setRow ga lra.toArray = W28 at *
                refine wpAnyH_ready (rs := [16]) (by kernel_rfl) (by simp) ?_
                refine AllReadyH.cons rfl (fun K hK => ?_) AllReadyH.nil
                · rw [if_pos (by rfl)]
                  refine wp_store_row 23 (.tmp 15) (.tmp 53) rfl gb lrb.toArray rfl rfl 23 _ hB28 lrb_HI.out lrb_HS.out lrb_HO.out ?_
                  refine hK.out _ _ (below_setRow hH28 (by omega) _) (fun hH29 => ?_)
                  clear hK K
                  try simp only [Act.put, List.getElem_toArray, List.getElem_cons_succ, List.getElem_cons_zero, List.setIfInBounds_toArray, List.set_cons_zero, List.set_cons_succ]
                  have hB29 := hB28.setRow lrb.toArray; have hA29 := hA28.setRow_other gb lrb.toArray (by omega)
                  change Arr (W28.setRow gb lrb.toArray) gb 23 lrb at hB29
                  change wpAnyH _ _ _ _ _ _ _ _ (W28.setRow gb lrb.toArray)
                  change Below w1.heap.size w1 (W28.setRow gb lrb.toArray) at hH29
                  clear hA28 hB28 hH28
                  generalize W28.setRow gb lrb.toArray = W29 at *
                  refine wpAnyH_done (by kernel_rfl) ?_ _
                  simp only [List.getElem_toArray, List.getElem_cons_succ, List.getElem_cons_zero, Exit.then, Act.put, List.setIfInBounds_toArray, List.set_cons_zero, List.set_cons_succ]
                  go_at_K
                  have hX := hH29; have xA := hA29; have xB := hB29
                  clear hH29 hA29 hB29
                  generalize W29 = wx at *
                  go_upto_region 8 with (fail)
                  have xL := hFS.below hX jG
                  have x1 := j1.below hX j1.lt
                  have x2 := j2.below hX j2.lt
                  have xBw := jB.trans (hX.mono (by have := jB.size; omega))
                  have rA := xA.range; have rB := xB.range; have rL := xL.range
                  have lA := xA.lt; have lB := xB.lt; have lL := xL.lt
                  refine wp_region_class 4 [] [0, 1, 2, 3] (Below wx.heap.size wx) (Stable.below wx) (Below.refl _ _).drew (by kernel_rfl) (by kernel_rfl) ?_
                  simp only [opsOf, List.getElem?_cons_succ, List.getElem?_cons_zero, List.drop_succ_cons, List.drop_zero]
                  refine wpL_val (.agg lra.toArray) rfl (by rfl) (fun wq hq => quiet_ld 23 _ rfl _ _ rfl lra _ (range_below rA hq lA) hu.out rfl hRAI.out) ?_
                  try simp only [Act.put, List.setIfInBounds_toArray, List.set_cons_zero, List.set_cons_succ]
                  refine wpL_val (.agg lrb.toArray) rfl (by rfl) (fun wq hq => quiet_ld 23 _ rfl _ _ rfl lrb _ (range_below rB hq lB) hu.out rfl hRBI.out) ?_
                  try simp only [Act.put, List.setIfInBounds_toArray, List.set_cons_zero, List.set_cons_succ]
                  refine wpL_val (.agg ld.toArray) rfl (by rfl) (fun wq hq => quiet_ld 23 _ rfl _ _ rfl ld _ (range_below rL hq lL) hu.out rfl hDI.out) ?_
                  try simp only [Act.put, List.setIfInBounds_toArray, List.set_cons_zero, List.set_cons_succ]
                  refine wpL_val ?v40 rfl (by rfl) (fun wq hq => ?y40) ?z40
                  case y40 => go_simp; exact hnd _
                  try simp only [Act.put, List.setIfInBounds_toArray, List.set_cons_zero, List.set_cons_succ]
                  refine wpL_nil ?_
                  intro wt hwt
                  have y1 := x1.below hwt x1.lt
                  have y2 := x2.below hwt x2.lt
                  have yB := xBw.trans (hwt.mono (by have := xBw.size; omega))
                  have s1 := y1.setRow lra.toArray
                  have s2 := y2.setRow_other (A + 1) lra.toArray (by omega)
                  have t1 := s1.setRow_other (A + 1 + 1) lx.toArray (by omega)
                  have tB : Below A w ((wt.setRow (A + 1) lra.toArray).setRow (A + 1 + 1) lx.toArray) := below_setRow (below_setRow yB (by omega) _) (by omega) _
                  (try rw [HX1.out]); (try rw [HX2.out])
                  go_wp2_with (first | ((with_reducible refine at_st 23 (.tmp 10) (.tmp 54) ?_); refine wpList_store_row rfl 23 (.tmp 10) (.tmp 54) rfl (A + 1) lra.toArray rfl rfl 23 _ y1 lra_HI.out lra_HS.out lra_HO.out ?_) | ((with_reducible refine at_st 23 (.tmp 11) (.tmp 57) ?_); refine wpList_store_row rfl 23 (.tmp 11) (.tmp 57) rfl (A + 1 + 1) lx.toArray rfl rfl 23 _ s2 lx_HI.out lx_HS.out lx_HO.out ?_))
                  exact bodyPost_ret (v := .tuple #[.agg lra.toArray, .agg lx.toArray]) (results_rr rfl _ _ (A + 1) (A + 1 + 1) 23 _ _ _ _ _ rfl rfl t1 (setRow_heap _ _ _ _ _ _ s2) hu.out rfl lra_HI.out lx_HI.out) rfl ⟨by simp only [HX1.out, HX2.out], by (try rw [hAe]); exact tB⟩
          · rw [if_pos (by rfl)]
            go_simp
            refine hK.out _ _ (hH22.alloc hH22.size (.cells (List.replicate 32 (V8 0)).toArray 23)) (fun hH30 => ?_)
            clear hK K
            try simp only [Act.put, List.getElem_toArray, List.getElem_cons_succ, List.getElem_cons_zero, List.setIfInBounds_toArray, List.set_cons_zero, List.set_cons_succ]
            have hB30 := Arr.new W22 23 (List.replicate 32 (V8 0))
            have hA30 := hA22.alloc (.cells (List.replicate 32 (V8 0)).toArray 23)
            have hgne : ga < W22.heap.size := hA22.lt
            clear hA22
            have hgb : w1.heap.size ≤ W22.heap.size := hH22.size
            change wpAnyH _ _ _ _ _ _ _ _ (W22.alloc (.cells (List.replicate 32 (V8 0)).toArray 23))
            clear hH22
            change Below w1.heap.size w1 (W22.alloc (.cells (List.replicate 32 (V8 0)).toArray 23)) at hH30
            generalize W22.alloc (.cells (List.replicate 32 (V8 0)).toArray 23) = W30 at *
            generalize W22.heap.size = gb at *
            refine wpAnyH_ready (rs := [9]) (by kernel_rfl) (by simp) ?_
            refine AllReadyH.cons rfl (fun K hK => ?_) AllReadyH.nil
            · rw [if_pos (by rfl)]
              go_simp
              refine (ihc _ _ (jT.below hH30 (Nat.le_refl _))).mono ?_
              rintro e W31 ⟨rfl, hb31⟩
              rw [HRA.out, HRB.out]
              refine hK.out _ _ (hH30.trans (hb31.mono hH30.size)) (fun hH31 => ?_)
              clear hK K
              try simp only [Act.put, List.getElem_toArray, List.getElem_cons_succ, List.getElem_cons_zero, List.setIfInBounds_toArray, List.set_cons_zero, List.set_cons_succ]
              have hA31 := hA30.below hb31 hA30.lt; clear hA30
              have hB31 := hB30.below hb31 hB30.lt; clear hB30
              clear hb31 hH30
              refine wpAnyH_take (i := 10) (v := ?tv32) rfl (by kernel_rfl) (by kernel_rfl) (by kernel_rfl) (fun _ _ _ h => h) (Or.inl ⟨by rfl, ?ty32⟩) hH31 ?tr32
              case ty32 => intro wq hq; go_simp; with_reducible rfl
              try simp only [Act.put, List.getElem_toArray, List.getElem_cons_succ, List.getElem_cons_zero, List.setIfInBounds_toArray, List.set_cons_zero, List.set_cons_succ]
              refine wpAnyH_take (i := 11) (v := ?tv33) rfl (by kernel_rfl) (by kernel_rfl) (by kernel_rfl) (fun _ _ _ h => h) (Or.inl ⟨by rfl, ?ty33⟩) hH31 ?tr33
              case ty33 => intro wq hq; go_simp; with_reducible rfl
              try simp only [Act.put, List.getElem_toArray, List.getElem_cons_succ, List.getElem_cons_zero, List.setIfInBounds_toArray, List.set_cons_zero, List.set_cons_succ]
              refine wpAnyH_take (i := 12) (v := ?tv34) rfl (by kernel_rfl) (by kernel_rfl) (by kernel_rfl) (fun _ _ _ h => h) (Or.inl ⟨by rfl, ?ty34⟩) hH31 ?tr34
              case ty34 => intro wq hq; go_simp; with_reducible rfl
              try simp only [Act.put, List.getElem_toArray, List.getElem_cons_succ, List.getElem_cons_zero, List.setIfInBounds_toArray, List.set_cons_zero, List.set_cons_succ]
              refine wpAnyH_ready (rs := [15]) (by kernel_rfl) (by simp) ?_
              refine AllReadyH.cons rfl (fun K hK => ?_) AllReadyH.nil
              · rw [if_pos (by rfl)]
                refine wp_store_row 23 (.tmp 14) (.tmp 52) rfl ga lra.toArray rfl rfl 23 _ hA31 lra_HI.out lra_HS.out lra_HO.out ?_
                refine hK.out _ _ (below_setRow hH31 (by omega) _) (fun hH35 => ?_)
                clear hK K
                try simp only [Act.put, List.getElem_toArray, List.getElem_cons_succ, List.getElem_cons_zero, List.setIfInBounds_toArray, List.set_cons_zero, List.set_cons_succ]
                have hA35 := hA31.setRow lra.toArray; have hB35 := hB31.setRow_other ga lra.toArray (by omega)
                change Arr (W31.setRow ga lra.toArray) ga 23 lra at hA35
                change wpAnyH _ _ _ _ _ _ _ _ (W31.setRow ga lra.toArray)
                change Below w1.heap.size w1 (W31.setRow ga lra.toArray) at hH35
                clear hA31 hB31 hH31
                generalize W31.setRow ga lra.toArray = W35 at *
                refine wpAnyH_ready (rs := [16]) (by kernel_rfl) (by simp) ?_
                refine AllReadyH.cons rfl (fun K hK => ?_) AllReadyH.nil
                · rw [if_pos (by rfl)]
                  refine wp_store_row 23 (.tmp 15) (.tmp 53) rfl gb lrb.toArray rfl rfl 23 _ hB35 lrb_HI.out lrb_HS.out lrb_HO.out ?_
                  refine hK.out _ _ (below_setRow hH35 (by omega) _) (fun hH36 => ?_)
                  clear hK K
                  try simp only [Act.put, List.getElem_toArray, List.getElem_cons_succ, List.getElem_cons_zero, List.setIfInBounds_toArray, List.set_cons_zero, List.set_cons_succ]
                  have hB36 := hB35.setRow lrb.toArray; have hA36 := hA35.setRow_other gb lrb.toArray (by omega)
                  change Arr (W35.setRow gb lrb.toArray) gb 23 lrb at hB36
                  change wpAnyH _ _ _ _ _ _ _ _ (W35.setRow gb lrb.toArray)
                  change Below w1.heap.size w1 (W35.setRow gb lrb.toArray) at hH36
                  clear hA35 hB35 hH35
                  generalize W35.setRow gb lrb.toArray = W36 at *
                  refine wpAnyH_done (by kernel_rfl) ?_ _
                  simp only [List.getElem_toArray, List.getElem_cons_succ, List.getElem_cons_zero, Exit.then, Act.put, List.setIfInBounds_toArray, List.set_cons_zero, List.set_cons_succ]
                  go_at_K
                  have hX := hH36; have xA := hA36; have xB := hB36
                  clear hH36 hA36 hB36
                  generalize W36 = wx at *
                  go_upto_region 8 with (fail)
                  have xL := hFS.below hX jG
                  have x1 := j1.below hX j1.lt
                  have x2 := j2.below hX j2.lt
                  have xBw := jB.trans (hX.mono (by have := jB.size; omega))
                  have rA := xA.range; have rB := xB.range; have rL := xL.range
                  have lA := xA.lt; have lB := xB.lt; have lL := xL.lt
                  refine wp_region_class 4 [] [0, 1, 2, 3] (Below wx.heap.size wx) (Stable.below wx) (Below.refl _ _).drew (by kernel_rfl) (by kernel_rfl) ?_
                  simp only [opsOf, List.getElem?_cons_succ, List.getElem?_cons_zero, List.drop_succ_cons, List.drop_zero]
                  refine wpL_val (.agg lra.toArray) rfl (by rfl) (fun wq hq => quiet_ld 23 _ rfl _ _ rfl lra _ (range_below rA hq lA) hu.out rfl hRAI.out) ?_
                  try simp only [Act.put, List.setIfInBounds_toArray, List.set_cons_zero, List.set_cons_succ]
                  refine wpL_val (.agg lrb.toArray) rfl (by rfl) (fun wq hq => quiet_ld 23 _ rfl _ _ rfl lrb _ (range_below rB hq lB) hu.out rfl hRBI.out) ?_
                  try simp only [Act.put, List.setIfInBounds_toArray, List.set_cons_zero, List.set_cons_succ]
                  refine wpL_val (.agg ld.toArray) rfl (by rfl) (fun wq hq => quiet_ld 23 _ rfl _ _ rfl ld _ (range_below rL hq lL) hu.out rfl hDI.out) ?_
                  try simp only [Act.put, List.setIfInBounds_toArray, List.set_cons_zero, List.set_cons_succ]
                  refine wpL_val ?v46 rfl (by rfl) (fun wq hq => ?y46) ?z46
                  case y46 => go_simp; exact hnd _
                  try simp only [Act.put, List.setIfInBounds_toArray, List.set_cons_zero, List.set_cons_succ]
                  refine wpL_nil ?_
                  intro wt hwt
                  have y1 := x1.below hwt x1.lt
                  have y2 := x2.below hwt x2.lt
                  have yB := xBw.trans (hwt.mono (by have := xBw.size; omega))
                  have s1 := y1.setRow lra.toArray
                  have s2 := y2.setRow_other (A + 1) lra.toArray (by omega)
                  have t1 := s1.setRow_other (A + 1 + 1) lx.toArray (by omega)
                  have tB : Below A w ((wt.setRow (A + 1) lra.toArray).setRow (A + 1 + 1) lx.toArray) := below_setRow (below_setRow yB (by omega) _) (by omega) _
                  (try rw [HX1.out]); (try rw [HX2.out])
                  go_wp2_with (first | ((with_reducible refine at_st 23 (.tmp 10) (.tmp 54) ?_); refine wpList_store_row rfl 23 (.tmp 10) (.tmp 54) rfl (A + 1) lra.toArray rfl rfl 23 _ y1 lra_HI.out lra_HS.out lra_HO.out ?_) | ((with_reducible refine at_st 23 (.tmp 11) (.tmp 57) ?_); refine wpList_store_row rfl 23 (.tmp 11) (.tmp 57) rfl (A + 1 + 1) lx.toArray rfl rfl 23 _ s2 lx_HI.out lx_HS.out lx_HO.out ?_))
                  exact bodyPost_ret (v := .tuple #[.agg lra.toArray, .agg lx.toArray]) (results_rr rfl _ _ (A + 1) (A + 1 + 1) 23 _ _ _ _ _ rfl rfl t1 (setRow_heap _ _ _ _ _ _ s2) hu.out rfl lra_HI.out lx_HI.out) rfl ⟨by simp only [HX1.out, HX2.out], by (try rw [hAe]); exact tB⟩
        · rw [if_pos (by rfl)]
          go_simp
          refine hK.out _ _ (hH1.alloc hH1.size (.cells (List.replicate 32 (V8 0)).toArray 23)) (fun hH37 => ?_)
          clear hK K
          try simp only [Act.put, List.getElem_toArray, List.getElem_cons_succ, List.getElem_cons_zero, List.setIfInBounds_toArray, List.set_cons_zero, List.set_cons_succ]
          have hB37 := Arr.new W1 23 (List.replicate 32 (V8 0))
          have hgb : w1.heap.size ≤ W1.heap.size := hH1.size
          change wpAnyH _ _ _ _ _ _ _ _ (W1.alloc (.cells (List.replicate 32 (V8 0)).toArray 23))
          clear hH1
          change Below w1.heap.size w1 (W1.alloc (.cells (List.replicate 32 (V8 0)).toArray 23)) at hH37
          generalize W1.alloc (.cells (List.replicate 32 (V8 0)).toArray 23) = W37 at *
          generalize W1.heap.size = gb at *
          refine wpAnyH_ready (rs := [9, 13]) (by kernel_rfl) (by simp) ?_
          refine AllReadyH.cons rfl (fun K hK => ?_) (AllReadyH.cons rfl (fun K hK => ?_) AllReadyH.nil)
          · rw [if_pos (by rfl)]
            go_simp
            refine (ihc _ _ (jT.below hH37 (Nat.le_refl _))).mono ?_
            rintro e W38 ⟨rfl, hb38⟩
            rw [HRA.out, HRB.out]
            refine hK.out _ _ (hH37.trans (hb38.mono hH37.size)) (fun hH38 => ?_)
            clear hK K
            try simp only [Act.put, List.getElem_toArray, List.getElem_cons_succ, List.getElem_cons_zero, List.setIfInBounds_toArray, List.set_cons_zero, List.set_cons_succ]
            have hB38 := hB37.below hb38 hB37.lt; clear hB37
            clear hb38 hH37
            refine wpAnyH_take (i := 10) (v := ?tv39) rfl (by kernel_rfl) (by kernel_rfl) (by kernel_rfl) (fun _ _ _ h => h) (Or.inl ⟨by rfl, ?ty39⟩) hH38 ?tr39
            case ty39 => intro wq hq; go_simp; with_reducible rfl
            try simp only [Act.put, List.getElem_toArray, List.getElem_cons_succ, List.getElem_cons_zero, List.setIfInBounds_toArray, List.set_cons_zero, List.set_cons_succ]
            refine wpAnyH_take (i := 11) (v := ?tv40) rfl (by kernel_rfl) (by kernel_rfl) (by kernel_rfl) (fun _ _ _ h => h) (Or.inl ⟨by rfl, ?ty40⟩) hH38 ?tr40
            case ty40 => intro wq hq; go_simp; with_reducible rfl
            try simp only [Act.put, List.getElem_toArray, List.getElem_cons_succ, List.getElem_cons_zero, List.setIfInBounds_toArray, List.set_cons_zero, List.set_cons_succ]
            refine wpAnyH_take (i := 12) (v := ?tv41) rfl (by kernel_rfl) (by kernel_rfl) (by kernel_rfl) (fun _ _ _ h => h) (Or.inl ⟨by rfl, ?ty41⟩) hH38 ?tr41
            case ty41 => intro wq hq; go_simp; with_reducible rfl
            try simp only [Act.put, List.getElem_toArray, List.getElem_cons_succ, List.getElem_cons_zero, List.setIfInBounds_toArray, List.set_cons_zero, List.set_cons_succ]
            refine wpAnyH_ready (rs := [13]) (by kernel_rfl) (by simp) ?_
            refine AllReadyH.cons rfl (fun K hK => ?_) AllReadyH.nil
            · rw [if_pos (by rfl)]
              go_simp
              refine hK.out _ _ (hH38.alloc hH38.size (.cells (List.replicate 32 (V8 0)).toArray 23)) (fun hH42 => ?_)
              clear hK K
              try simp only [Act.put, List.getElem_toArray, List.getElem_cons_succ, List.getElem_cons_zero, List.setIfInBounds_toArray, List.set_cons_zero, List.set_cons_succ]
              have hA42 := Arr.new W38 23 (List.replicate 32 (V8 0))
              have hB42 := hB38.alloc (.cells (List.replicate 32 (V8 0)).toArray 23)
              have hgne : gb < W38.heap.size := hB38.lt
              clear hB38
              have hga : w1.heap.size ≤ W38.heap.size := hH38.size
              change wpAnyH _ _ _ _ _ _ _ _ (W38.alloc (.cells (List.replicate 32 (V8 0)).toArray 23))
              clear hH38
              change Below w1.heap.size w1 (W38.alloc (.cells (List.replicate 32 (V8 0)).toArray 23)) at hH42
              generalize W38.alloc (.cells (List.replicate 32 (V8 0)).toArray 23) = W42 at *
              generalize W38.heap.size = ga at *
              refine wpAnyH_ready (rs := [15]) (by kernel_rfl) (by simp) ?_
              refine AllReadyH.cons rfl (fun K hK => ?_) AllReadyH.nil
              · rw [if_pos (by rfl)]
                refine wp_store_row 23 (.tmp 14) (.tmp 52) rfl ga lra.toArray rfl rfl 23 _ hA42 lra_HI.out lra_HS.out lra_HO.out ?_
                refine hK.out _ _ (below_setRow hH42 (by omega) _) (fun hH43 => ?_)
                clear hK K
                try simp only [Act.put, List.getElem_toArray, List.getElem_cons_succ, List.getElem_cons_zero, List.setIfInBounds_toArray, List.set_cons_zero, List.set_cons_succ]
                have hA43 := hA42.setRow lra.toArray; have hB43 := hB42.setRow_other ga lra.toArray (by omega)
                change Arr (W42.setRow ga lra.toArray) ga 23 lra at hA43
                change wpAnyH _ _ _ _ _ _ _ _ (W42.setRow ga lra.toArray)
                change Below w1.heap.size w1 (W42.setRow ga lra.toArray) at hH43
                clear hA42 hB42 hH42
                generalize W42.setRow ga lra.toArray = W43 at *
                refine wpAnyH_ready (rs := [16]) (by kernel_rfl) (by simp) ?_
                refine AllReadyH.cons rfl (fun K hK => ?_) AllReadyH.nil
                · rw [if_pos (by rfl)]
                  refine wp_store_row 23 (.tmp 15) (.tmp 53) rfl gb lrb.toArray rfl rfl 23 _ hB43 lrb_HI.out lrb_HS.out lrb_HO.out ?_
                  refine hK.out _ _ (below_setRow hH43 (by omega) _) (fun hH44 => ?_)
                  clear hK K
                  try simp only [Act.put, List.getElem_toArray, List.getElem_cons_succ, List.getElem_cons_zero, List.setIfInBounds_toArray, List.set_cons_zero, List.set_cons_succ]
                  have hB44 := hB43.setRow lrb.toArray; have hA44 := hA43.setRow_other gb lrb.toArray (by omega)
                  change Arr (W43.setRow gb lrb.toArray) gb 23 lrb at hB44
                  change wpAnyH _ _ _ _ _ _ _ _ (W43.setRow gb lrb.toArray)
                  change Below w1.heap.size w1 (W43.setRow gb lrb.toArray) at hH44
                  clear hA43 hB43 hH43
                  generalize W43.setRow gb lrb.toArray = W44 at *
                  refine wpAnyH_done (by kernel_rfl) ?_ _
                  simp only [List.getElem_toArray, List.getElem_cons_succ, List.getElem_cons_zero, Exit.then, Act.put, List.setIfInBounds_toArray, List.set_cons_zero, List.set_cons_succ]
                  go_at_K
                  have hX := hH44; have xA := hA44; have xB := hB44
                  clear hH44 hA44 hB44
                  generalize W44 = wx at *
                  go_upto_region 8 with (fail)
                  have xL := hFS.below hX jG
                  have x1 := j1.below hX j1.lt
                  have x2 := j2.below hX j2.lt
                  have xBw := jB.trans (hX.mono (by have := jB.size; omega))
                  have rA := xA.range; have rB := xB.range; have rL := xL.range
                  have lA := xA.lt; have lB := xB.lt; have lL := xL.lt
                  refine wp_region_class 4 [] [0, 1, 2, 3] (Below wx.heap.size wx) (Stable.below wx) (Below.refl _ _).drew (by kernel_rfl) (by kernel_rfl) ?_
                  simp only [opsOf, List.getElem?_cons_succ, List.getElem?_cons_zero, List.drop_succ_cons, List.drop_zero]
                  refine wpL_val (.agg lra.toArray) rfl (by rfl) (fun wq hq => quiet_ld 23 _ rfl _ _ rfl lra _ (range_below rA hq lA) hu.out rfl hRAI.out) ?_
                  try simp only [Act.put, List.setIfInBounds_toArray, List.set_cons_zero, List.set_cons_succ]
                  refine wpL_val (.agg lrb.toArray) rfl (by rfl) (fun wq hq => quiet_ld 23 _ rfl _ _ rfl lrb _ (range_below rB hq lB) hu.out rfl hRBI.out) ?_
                  try simp only [Act.put, List.setIfInBounds_toArray, List.set_cons_zero, List.set_cons_succ]
                  refine wpL_val (.agg ld.toArray) rfl (by rfl) (fun wq hq => quiet_ld 23 _ rfl _ _ rfl ld _ (range_below rL hq lL) hu.out rfl hDI.out) ?_
                  try simp only [Act.put, List.setIfInBounds_toArray, List.set_cons_zero, List.set_cons_succ]
                  refine wpL_val ?v52 rfl (by rfl) (fun wq hq => ?y52) ?z52
                  case y52 => go_simp; exact hnd _
                  try simp only [Act.put, List.setIfInBounds_toArray, List.set_cons_zero, List.set_cons_succ]
                  refine wpL_nil ?_
                  intro wt hwt
                  have y1 := x1.below hwt x1.lt
                  have y2 := x2.below hwt x2.lt
                  have yB := xBw.trans (hwt.mono (by have := xBw.size; omega))
                  have s1 := y1.setRow lra.toArray
                  have s2 := y2.setRow_other (A + 1) lra.toArray (by omega)
                  have t1 := s1.setRow_other (A + 1 + 1) lx.toArray (by omega)
                  have tB : Below A w ((wt.setRow (A + 1) lra.toArray).setRow (A + 1 + 1) lx.toArray) := below_setRow (below_setRow yB (by omega) _) (by omega) _
                  (try rw [HX1.out]); (try rw [HX2.out])
                  go_wp2_with (first | ((with_reducible refine at_st 23 (.tmp 10) (.tmp 54) ?_); refine wpList_store_row rfl 23 (.tmp 10) (.tmp 54) rfl (A + 1) lra.toArray rfl rfl 23 _ y1 lra_HI.out lra_HS.out lra_HO.out ?_) | ((with_reducible refine at_st 23 (.tmp 11) (.tmp 57) ?_); refine wpList_store_row rfl 23 (.tmp 11) (.tmp 57) rfl (A + 1 + 1) lx.toArray rfl rfl 23 _ s2 lx_HI.out lx_HS.out lx_HO.out ?_))
                  exact bodyPost_ret (v := .tuple #[.agg lra.toArray, .agg lx.toArray]) (results_rr rfl _ _ (A + 1) (A + 1 + 1) 23 _ _ _ _ _ rfl rfl t1 (setRow_heap _ _ _ _ _ _ s2) hu.out rfl lra_HI.out lx_HI.out) rfl ⟨by simp only [HX1.out, HX2.out], by (try rw [hAe]); exact tB⟩
          · rw [if_pos (by rfl)]
            go_simp
            refine hK.out _ _ (hH37.alloc hH37.size (.cells (List.replicate 32 (V8 0)).toArray 23)) (fun hH45 => ?_)
            clear hK K
            try simp only [Act.put, List.getElem_toArray, List.getElem_cons_succ, List.getElem_cons_zero, List.setIfInBounds_toArray, List.set_cons_zero, List.set_cons_succ]
            have hA45 := Arr.new W37 23 (List.replicate 32 (V8 0))
            have hB45 := hB37.alloc (.cells (List.replicate 32 (V8 0)).toArray 23)
            have hgne : gb < W37.heap.size := hB37.lt
            clear hB37
            have hga : w1.heap.size ≤ W37.heap.size := hH37.size
            change wpAnyH _ _ _ _ _ _ _ _ (W37.alloc (.cells (List.replicate 32 (V8 0)).toArray 23))
            clear hH37
            change Below w1.heap.size w1 (W37.alloc (.cells (List.replicate 32 (V8 0)).toArray 23)) at hH45
            generalize W37.alloc (.cells (List.replicate 32 (V8 0)).toArray 23) = W45 at *
            generalize W37.heap.size = ga at *
            refine wpAnyH_ready (rs := [9]) (by kernel_rfl) (by simp) ?_
            refine AllReadyH.cons rfl (fun K hK => ?_) AllReadyH.nil
            · rw [if_pos (by rfl)]
              go_simp
              refine (ihc _ _ (jT.below hH45 (Nat.le_refl _))).mono ?_
              rintro e W46 ⟨rfl, hb46⟩
              rw [HRA.out, HRB.out]
              refine hK.out _ _ (hH45.trans (hb46.mono hH45.size)) (fun hH46 => ?_)
              clear hK K
              try simp only [Act.put, List.getElem_toArray, List.getElem_cons_succ, List.getElem_cons_zero, List.setIfInBounds_toArray, List.set_cons_zero, List.set_cons_succ]
              have hA46 := hA45.below hb46 hA45.lt; clear hA45
              have hB46 := hB45.below hb46 hB45.lt; clear hB45
              clear hb46 hH45
              refine wpAnyH_take (i := 10) (v := ?tv47) rfl (by kernel_rfl) (by kernel_rfl) (by kernel_rfl) (fun _ _ _ h => h) (Or.inl ⟨by rfl, ?ty47⟩) hH46 ?tr47
              case ty47 => intro wq hq; go_simp; with_reducible rfl
              try simp only [Act.put, List.getElem_toArray, List.getElem_cons_succ, List.getElem_cons_zero, List.setIfInBounds_toArray, List.set_cons_zero, List.set_cons_succ]
              refine wpAnyH_take (i := 11) (v := ?tv48) rfl (by kernel_rfl) (by kernel_rfl) (by kernel_rfl) (fun _ _ _ h => h) (Or.inl ⟨by rfl, ?ty48⟩) hH46 ?tr48
              case ty48 => intro wq hq; go_simp; with_reducible rfl
              try simp only [Act.put, List.getElem_toArray, List.getElem_cons_succ, List.getElem_cons_zero, List.setIfInBounds_toArray, List.set_cons_zero, List.set_cons_succ]
              refine wpAnyH_take (i := 12) (v := ?tv49) rfl (by kernel_rfl) (by kernel_rfl) (by kernel_rfl) (fun _ _ _ h => h) (Or.inl ⟨by rfl, ?ty49⟩) hH46 ?tr49
              case ty49 => intro wq hq; go_simp; with_reducible rfl
              try simp only [Act.put, List.getElem_toArray, List.getElem_cons_succ, List.getElem_cons_zero, List.setIfInBounds_toArray, List.set_cons_zero, List.set_cons_succ]
              refine wpAnyH_ready (rs := [15]) (by kernel_rfl) (by simp) ?_
              refine AllReadyH.cons rfl (fun K hK => ?_) AllReadyH.nil
              · rw [if_pos (by rfl)]
                refine wp_store_row 23 (.tmp 14) (.tmp 52) rfl ga lra.toArray rfl rfl 23 _ hA46 lra_HI.out lra_HS.out lra_HO.out ?_
                refine hK.out _ _ (below_setRow hH46 (by omega) _) (fun hH50 => ?_)
                clear hK K
                try simp only [Act.put, List.getElem_toArray, List.getElem_cons_succ, List.getElem_cons_zero, List.setIfInBounds_toArray, List.set_cons_zero, List.set_cons_succ]
                have hA50 := hA46.setRow lra.toArray; have hB50 := hB46.setRow_other ga lra.toArray (by omega)
                change Arr (W46.setRow ga lra.toArray) ga 23 lra at hA50
                change wpAnyH _ _ _ _ _ _ _ _ (W46.setRow ga lra.toArray)
                change Below w1.heap.size w1 (W46.setRow ga lra.toArray) at hH50
                clear hA46 hB46 hH46
                generalize W46.setRow ga lra.toArray = W50 at *
                refine wpAnyH_ready (rs := [16]) (by kernel_rfl) (by simp) ?_
                refine AllReadyH.cons rfl (fun K hK => ?_) AllReadyH.nil
                · rw [if_pos (by rfl)]
                  refine wp_store_row 23 (.tmp 15) (.tmp 53) rfl gb lrb.toArray rfl rfl 23 _ hB50 lrb_HI.out lrb_HS.out lrb_HO.out ?_
                  refine hK.out _ _ (below_setRow hH50 (by omega) _) (fun hH51 => ?_)
                  clear hK K
                  try simp only [Act.put, List.getElem_toArray, List.getElem_cons_succ, List.getElem_cons_zero, List.setIfInBounds_toArray, List.set_cons_zero, List.set_cons_succ]
                  have hB51 := hB50.setRow lrb.toArray; have hA51 := hA50.setRow_other gb lrb.toArray (by omega)
                  change Arr (W50.setRow gb lrb.toArray) gb 23 lrb at hB51
                  change wpAnyH _ _ _ _ _ _ _ _ (W50.setRow gb lrb.toArray)
                  change Below w1.heap.size w1 (W50.setRow gb lrb.toArray) at hH51
                  clear hA50 hB50 hH50
                  generalize W50.setRow gb lrb.toArray = W51 at *
                  refine wpAnyH_done (by kernel_rfl) ?_ _
                  simp only [List.getElem_toArray, List.getElem_cons_succ, List.getElem_cons_zero, Exit.then, Act.put, List.setIfInBounds_toArray, List.set_cons_zero, List.set_cons_succ]
                  go_at_K
                  have hX := hH51; have xA := hA51; have xB := hB51
                  clear hH51 hA51 hB51
                  generalize W51 = wx at *
                  go_upto_region 8 with (fail)
                  have xL := hFS.below hX jG
                  have x1 := j1.below hX j1.lt
                  have x2 := j2.below hX j2.lt
                  have xBw := jB.trans (hX.mono (by have := jB.size; omega))
                  have rA := xA.range; have rB := xB.range; have rL := xL.range
                  have lA := xA.lt; have lB := xB.lt; have lL := xL.lt
                  refine wp_region_class 4 [] [0, 1, 2, 3] (Below wx.heap.size wx) (Stable.below wx) (Below.refl _ _).drew (by kernel_rfl) (by kernel_rfl) ?_
                  simp only [opsOf, List.getElem?_cons_succ, List.getElem?_cons_zero, List.drop_succ_cons, List.drop_zero]
                  refine wpL_val (.agg lra.toArray) rfl (by rfl) (fun wq hq => quiet_ld 23 _ rfl _ _ rfl lra _ (range_below rA hq lA) hu.out rfl hRAI.out) ?_
                  try simp only [Act.put, List.setIfInBounds_toArray, List.set_cons_zero, List.set_cons_succ]
                  refine wpL_val (.agg lrb.toArray) rfl (by rfl) (fun wq hq => quiet_ld 23 _ rfl _ _ rfl lrb _ (range_below rB hq lB) hu.out rfl hRBI.out) ?_
                  try simp only [Act.put, List.setIfInBounds_toArray, List.set_cons_zero, List.set_cons_succ]
                  refine wpL_val (.agg ld.toArray) rfl (by rfl) (fun wq hq => quiet_ld 23 _ rfl _ _ rfl ld _ (range_below rL hq lL) hu.out rfl hDI.out) ?_
                  try simp only [Act.put, List.setIfInBounds_toArray, List.set_cons_zero, List.set_cons_succ]
                  refine wpL_val ?v58 rfl (by rfl) (fun wq hq => ?y58) ?z58
                  case y58 => go_simp; exact hnd _
                  try simp only [Act.put, List.setIfInBounds_toArray, List.set_cons_zero, List.set_cons_succ]
                  refine wpL_nil ?_
                  intro wt hwt
                  have y1 := x1.below hwt x1.lt
                  have y2 := x2.below hwt x2.lt
                  have yB := xBw.trans (hwt.mono (by have := xBw.size; omega))
                  have s1 := y1.setRow lra.toArray
                  have s2 := y2.setRow_other (A + 1) lra.toArray (by omega)
                  have t1 := s1.setRow_other (A + 1 + 1) lx.toArray (by omega)
                  have tB : Below A w ((wt.setRow (A + 1) lra.toArray).setRow (A + 1 + 1) lx.toArray) := below_setRow (below_setRow yB (by omega) _) (by omega) _
                  (try rw [HX1.out]); (try rw [HX2.out])
                  go_wp2_with (first | ((with_reducible refine at_st 23 (.tmp 10) (.tmp 54) ?_); refine wpList_store_row rfl 23 (.tmp 10) (.tmp 54) rfl (A + 1) lra.toArray rfl rfl 23 _ y1 lra_HI.out lra_HS.out lra_HO.out ?_) | ((with_reducible refine at_st 23 (.tmp 11) (.tmp 57) ?_); refine wpList_store_row rfl 23 (.tmp 11) (.tmp 57) rfl (A + 1 + 1) lx.toArray rfl rfl 23 _ s2 lx_HI.out lx_HS.out lx_HO.out ?_))
                  exact bodyPost_ret (v := .tuple #[.agg lra.toArray, .agg lx.toArray]) (results_rr rfl _ _ (A + 1) (A + 1 + 1) 23 _ _ _ _ _ rfl rfl t1 (setRow_heap _ _ _ _ _ _ s2) hu.out rfl lra_HI.out lx_HI.out) rfl ⟨by simp only [HX1.out, HX2.out], by (try rw [hAe]); exact tB⟩
      · rw [if_neg hc] at hlen ⊢
        have hw2 : IntKind.i64.wrap ((m : Int) - (p : Int)) = (m : Int) - (p : Int) := IntWalk.i64_in _ (by omega)
        have hw3 : IntKind.i64.wrap ((n : Int) - (p : Int)) = (n : Int) - (p : Int) := IntWalk.i64_in _ (by omega)
        have ihc := fun v w hV => ih old (m - p) (n - p) false rest v w hlf (by omega) (by omega) (by omega) (by omega) (by omega) hV
        have hpl := pext_length (n - p) old (m - p) (n - p) false rest (Nat.le_refl _) hlf hT.all
        rw [hA] at ihc
        have c1 : ((m - p : Nat) : Int) = (m : Int) - (p : Int) := by omega
        have c2 : ((n - p : Nat) : Int) = (n : Int) - (p : Int) := by omega
        rw [c1, c2] at ihc
        clear c1 c2
        generalize pext old (m - p) (n - p) false rest = rr at *
        obtain ⟨ra, rb, ok⟩ := rr
        simp only at ihc hpl ⊢
        obtain ⟨lra, hRA, -, hral, hrao⟩ := v8_list ra hpl.1
        obtain ⟨lrb, hRB, -, hrbl, hrbo⟩ := v8_list rb hpl.2
        have HRA := Lib.hid hRA; have HRB := Lib.hid hRB
        have lra_HI := Lib.hid (inf_size infR32 lra hral); have lra_HS := Lib.hid (st_size lra hral); have lra_HO := Lib.hid (all_oneCell_toArray hrao)
        have lrb_HI := Lib.hid (inf_size infR32 lrb hrbl); have lrb_HS := Lib.hid (st_size lrb hrbl); have lrb_HO := Lib.hid (all_oneCell_toArray hrbo)
        have hRAI := Lib.hid (show (Tryd.prog.info? 23).map (·.size) = some lra.length by rw [hral]; exact infR32)
        have hRBI := Lib.hid (show (Tryd.prog.info? 23).map (·.size) = some lrb.length by rw [hrbl]; exact infR32)
        have hxl := Sha.node_length d rb
        have hnd := fun w => nodeR_la d rb hd hpl.2 _ _ hD hRB w
        generalize Sha.node d rb = x at *
        obtain ⟨lx, hX, -, hxx, hxo⟩ := v8_list x hxl
        have HX2 := Lib.hid hX
        have lx_HI := Lib.hid (inf_size infR32 lx hxx); have lx_HS := Lib.hid (st_size lx hxx); have lx_HO := Lib.hid (all_oneCell_toArray hxo)
        have hyl := Sha.node_length d ra
        have hnd1 := fun w => nodeR_la d ra hd hpl.1 _ _ hD hRA w
        generalize Sha.node d ra = y at *
        obtain ⟨ly, hY, -, hyy, hyo⟩ := v8_list y hyl
        have HX1 := Lib.hid hY
        have ly_HI := Lib.hid (inf_size infR32 ly hyy); have ly_HS := Lib.hid (st_size ly hyy); have ly_HO := Lib.hid (all_oneCell_toArray hyo)
        clear hY hyy hyo hyl
        rw [hA]
        clear hX hxx hxo hxl hRA hRB hral hrbl hrao hrbo hpl hA hao hal hldm hdo ih hlen
        have HR := Lib.hid hr
        have HT := Lib.hid hT
        clear hr hT
        go_enter Tryd.func55, Tryd.ntmps55
        go_upto_region 5 with (fail)
        have ⟨f0, f1, f2, f3, f4⟩ := h0.out
        change Code.wp _ _ _ _ (((w.alloc (.cells la.toArray 23)).alloc (.cells (List.replicate 32 (V8 0)).toArray 23)).alloc (.cells (List.replicate 32 (V8 0)).toArray 23))
        clear h0
        generalize ((w.alloc (.cells la.toArray 23)).alloc (.cells (List.replicate 32 (V8 0)).toArray 23)).alloc (.cells (List.replicate 32 (V8 0)).toArray 23) = w0 at *
        have hr := range_below HR.out f3 hg
        have hT0 := HT.out.below f3 (Nat.le_refl _)
        have hg0 : g < w0.heap.size := by omega
        clear HR HT
        generalize hAe : w.heap.size = A at *
        refine wp_region_class 10 [8] [0, 1, 2, 3, 4, 5, 6, 7, 8, 9] (Below w0.heap.size w0) (Stable.below w0) (Below.refl _ _).drew (by kernel_rfl) (by kernel_rfl) ?_
        simp only [opsOf, List.getElem?_cons_succ, List.getElem?_cons_zero, List.drop_succ_cons, List.drop_zero]
        refine wpL_val ?v61 rfl (by rfl) (fun wq hq => ?y61) ?z61
        case y61 => go_simp; with_reducible rfl
        try simp only [Act.put, List.setIfInBounds_toArray, List.set_cons_zero, List.set_cons_succ]
        refine wpL_val ?v62 rfl (by rfl) (fun wq hq => ?y62) ?z62
        case y62 => go_simp; have hh := calls_same (hl wq); exact hh
        try simp only [Act.put, List.setIfInBounds_toArray, List.set_cons_zero, List.set_cons_succ]
        refine wpL_val ?v63 rfl (by rfl) (fun wq hq => ?y63) ?z63
        case y63 => go_simp; with_reducible rfl
        try simp only [Act.put, List.setIfInBounds_toArray, List.set_cons_zero, List.set_cons_succ]
        refine wpL_val ?v64 rfl (by rfl) (fun wq hq => ?y64) ?z64
        case y64 => go_simp; with_reducible rfl
        try simp only [Act.put, List.setIfInBounds_toArray, List.set_cons_zero, List.set_cons_succ]
        refine wpL_val ?v65 rfl (by rfl) (fun wq hq => ?y65) ?z65
        case y65 => go_simp; with_reducible rfl
        try simp only [Act.put, List.setIfInBounds_toArray, List.set_cons_zero, List.set_cons_succ]
        refine wpL_val ?v66 rfl (by rfl) (fun wq hq => ?y66) ?z66
        case y66 => go_simp; with_reducible rfl
        try simp only [Act.put, List.setIfInBounds_toArray, List.set_cons_zero, List.set_cons_succ]
        refine wpL_val ?v67 rfl (by rfl) (fun wq hq => ?y67) ?z67
        case y67 => go_simp; with_reducible rfl
        try simp only [Act.put, List.setIfInBounds_toArray, List.set_cons_zero, List.set_cons_succ]
        refine wpL_val (.agg ld.toArray) rfl (by rfl) (fun wq hq => quiet_ld 23 _ rfl _ _ rfl ld _ (range_below hr hq hg0) hu.out rfl hDI.out) ?_
        try simp only [Act.put, List.setIfInBounds_toArray, List.set_cons_zero, List.set_cons_succ]
        refine wpL_new (fun b => .pointer (some ⟨b, 0, none⟩)) (Z32 23) rfl (by rfl) (Stable.below w0) (fun _ h => h) (fun wq hq => ?ynew) (fun gl hgl => ?_)
        case ynew => go_simp; rfl
        try simp only [Act.put, List.setIfInBounds_toArray, List.set_cons_zero, List.set_cons_succ]
        refine wpL_val ?v69 rfl (by rfl) (fun wq hq => ?y69) ?z69
        case y69 => go_simp; with_reducible rfl
        try simp only [Act.put, List.setIfInBounds_toArray, List.set_cons_zero, List.set_cons_succ]
        refine wpL_nil ?_
        intro wt hwt
        have hgl2 : w0.heap.size ≤ gl := by obtain ⟨wx, hx, rfl⟩ := hgl; exact hx.size
        clear hgl
        have hF : Arr wt gl 23 (List.replicate 32 (V8 0)) := hwt.2.2
        have hwt1 := hwt.1
        clear hwt
        have hFS := hF.setRow ld.toArray
        have hB1 : Below w0.heap.size w0 (wt.setRow gl ld.toArray) := below_setRow hwt1 hgl2 _
        go_upto_region 6 with ((with_reducible refine at_st 23 (.tmp 13) (.tmp 37) ?_); refine wpList_store_row rfl 23 (.tmp 13) (.tmp 37) rfl gl ld.toArray rfl rfl 23 _ hF ld_HI.out ld_HS.out ld_HO.out ?_)
        change Arr (wt.setRow gl ld.toArray) gl 23 ld at hFS
        change Code.wp _ _ _ _ (wt.setRow gl ld.toArray)
        generalize wt.setRow gl ld.toArray = w1 at *
        have j0 := f0.below hB1 f0.lt
        have j1 := f1.below hB1 f1.lt
        have j2 := f2.below hB1 f2.lt
        have jB := f3.trans (hB1.mono (by omega))
        have jT := hT0.below hB1 (Nat.le_refl _)
        have jG : gl < w1.heap.size := hFS.lt
        have j2lt : A + 1 + 1 < w1.heap.size := j2.lt
        have hglA : A + 1 + 1 < gl := by omega
        clear f0 f1 f2 f3 hT0 hB1 hF hwt1 hg0 hr
        go_upto_region 9 with (fail)
        have r0 := j0.range
        refine wp_region_held_drew (S := fun w' => Below w1.heap.size w1 w') (by kernel_rfl) (Below.refl _ _).drew (fun hH52 => ?_)
        generalize w1.drew = W52 at *
        refine wpAnyH_take (i := 0) rfl (by kernel_rfl) (by kernel_rfl) (by kernel_rfl) (fun _ _ _ h => h) (yieldsIf_load_mid (by rfl) _ _ rfl _ _ rfl la _ (fun w h => range_below r0 h (by omega)) hu.out rfl hI.out) hH52 ?_
        try simp only [Act.put, List.getElem_toArray, List.getElem_cons_succ, List.getElem_cons_zero, List.setIfInBounds_toArray, List.set_cons_zero, List.set_cons_succ]
        refine wpAnyH_take (i := 1) (v := ?tv53) rfl (by kernel_rfl) (by kernel_rfl) (by kernel_rfl) (fun _ _ _ h => h) (Or.inl ⟨by rfl, ?ty53⟩) hH52 ?tr53
        case ty53 => intro wq hq; go_simp; with_reducible rfl
        try simp only [Act.put, List.getElem_toArray, List.getElem_cons_succ, List.getElem_cons_zero, List.setIfInBounds_toArray, List.set_cons_zero, List.set_cons_succ]
        refine wpAnyH_take (i := 2) (v := ?tv54) rfl (by kernel_rfl) (by kernel_rfl) (by kernel_rfl) (fun _ _ _ h => h) (Or.inl ⟨by rfl, ?ty54⟩) hH52 ?tr54
        case ty54 => intro wq hq; go_simp; with_reducible rfl
        try simp only [Act.put, List.getElem_toArray, List.getElem_cons_succ, List.getElem_cons_zero, List.setIfInBounds_toArray, List.set_cons_zero, List.set_cons_succ]
        refine wpAnyH_take (i := 3) (v := ?tv55) rfl (by kernel_rfl) (by kernel_rfl) (by kernel_rfl) (fun _ _ _ h => h) (Or.inl ⟨by rfl, ?ty55⟩) hH52 ?tr55
        case ty55 => intro wq hq; go_simp; with_reducible rfl
        try simp only [Act.put, List.getElem_toArray, List.getElem_cons_succ, List.getElem_cons_zero, List.setIfInBounds_toArray, List.set_cons_zero, List.set_cons_succ]
        refine wpAnyH_take (i := 4) (v := ?tv56) rfl (by kernel_rfl) (by kernel_rfl) (by kernel_rfl) (fun _ _ _ h => h) (Or.inl ⟨by rfl, ?ty56⟩) hH52 ?tr56
        case ty56 => intro wq hq; go_simp; with_reducible rfl
        try simp only [Act.put, List.getElem_toArray, List.getElem_cons_succ, List.getElem_cons_zero, List.setIfInBounds_toArray, List.set_cons_zero, List.set_cons_succ]
        refine wpAnyH_take (i := 5) (v := ?tv57) rfl (by kernel_rfl) (by kernel_rfl) (by kernel_rfl) (fun _ _ _ h => h) (Or.inl ⟨by rfl, ?ty57⟩) hH52 ?tr57
        case ty57 => intro wq hq; go_simp; with_reducible rfl
        try simp only [Act.put, List.getElem_toArray, List.getElem_cons_succ, List.getElem_cons_zero, List.setIfInBounds_toArray, List.set_cons_zero, List.set_cons_succ]
        refine wpAnyH_take (i := 6) (v := ?tv58) rfl (by kernel_rfl) (by kernel_rfl) (by kernel_rfl) (fun _ _ _ h => h) (Or.inl ⟨by rfl, ?ty58⟩) hH52 ?tr58
        case ty58 => intro wq hq; go_simp; with_reducible rfl
        try simp only [Act.put, List.getElem_toArray, List.getElem_cons_succ, List.getElem_cons_zero, List.setIfInBounds_toArray, List.set_cons_zero, List.set_cons_succ]
        refine wpAnyH_take (i := 7) (v := ?tv59) rfl (by kernel_rfl) (by kernel_rfl) (by kernel_rfl) (fun _ _ _ h => h) (Or.inl ⟨by rfl, ?ty59⟩) hH52 ?tr59
        case ty59 => intro wq hq; go_simp; with_reducible rfl
        try simp only [Act.put, List.getElem_toArray, List.getElem_cons_succ, List.getElem_cons_zero, List.setIfInBounds_toArray, List.set_cons_zero, List.set_cons_succ]
        refine wpAnyH_take (i := 8) (v := ?tv60) rfl (by kernel_rfl) (by kernel_rfl) (by kernel_rfl) (fun _ _ _ h => h) (Or.inl ⟨by rfl, ?ty60⟩) hH52 ?tr60
        case ty60 => intro wq hq; go_simp; with_reducible rfl
        try simp only [Act.put, List.getElem_toArray, List.getElem_cons_succ, List.getElem_cons_zero, List.setIfInBounds_toArray, List.set_cons_zero, List.set_cons_succ]
        refine wpAnyH_take (i := 9) (v := ?tv61) rfl (by kernel_rfl) (by kernel_rfl) (by kernel_rfl) (fun _ _ _ h => h) (Or.inl ⟨by rfl, ?ty61⟩) hH52 ?tr61
        case ty61 => intro wq hq; go_simp; with_reducible rfl
        try simp only [Act.put, List.getElem_toArray, List.getElem_cons_succ, List.getElem_cons_zero, List.setIfInBounds_toArray, List.set_cons_zero, List.set_cons_succ]
        refine wpAnyH_take (i := 10) (v := ?tv62) rfl (by kernel_rfl) (by kernel_rfl) (by kernel_rfl) (fun _ _ _ h => h) (Or.inl ⟨by rfl, ?ty62⟩) hH52 ?tr62
        case ty62 => intro wq hq; go_simp; with_reducible rfl
        try simp only [Act.put, List.getElem_toArray, List.getElem_cons_succ, List.getElem_cons_zero, List.setIfInBounds_toArray, List.set_cons_zero, List.set_cons_succ]
        refine wpAnyH_take (i := 11) (v := ?tv63) rfl (by kernel_rfl) (by kernel_rfl) (by kernel_rfl) (fun _ _ _ h => h) (Or.inl ⟨by rfl, ?ty63⟩) hH52 ?tr63
        case ty63 => intro wq hq; go_simp; with_reducible rfl
        try simp only [Act.put, List.getElem_toArray, List.getElem_cons_succ, List.getElem_cons_zero, List.setIfInBounds_toArray, List.set_cons_zero, List.set_cons_succ]
        refine wpAnyH_ready (rs := [12, 16, 17]) (by kernel_rfl) (by simp) ?_
        refine AllReadyH.cons rfl (fun K hK => ?_) (AllReadyH.cons rfl (fun K hK => ?_) (AllReadyH.cons rfl (fun K hK => ?_) AllReadyH.nil))
        · rw [if_pos (by rfl)]
          go_simp
          refine (ihc _ _ (jT.below hH52 (Nat.le_refl _))).mono ?_
          rintro e W64 ⟨rfl, hb64⟩
          rw [HRA.out, HRB.out]
          refine hK.out _ _ (hH52.trans (hb64.mono hH52.size)) (fun hH64 => ?_)
          clear hK K
          try simp only [Act.put, List.getElem_toArray, List.getElem_cons_succ, List.getElem_cons_zero, List.setIfInBounds_toArray, List.set_cons_zero, List.set_cons_succ]
          clear hb64 hH52
          refine wpAnyH_take (i := 13) (v := ?tv65) rfl (by kernel_rfl) (by kernel_rfl) (by kernel_rfl) (fun _ _ _ h => h) (Or.inl ⟨by rfl, ?ty65⟩) hH64 ?tr65
          case ty65 => intro wq hq; go_simp; with_reducible rfl
          try simp only [Act.put, List.getElem_toArray, List.getElem_cons_succ, List.getElem_cons_zero, List.setIfInBounds_toArray, List.set_cons_zero, List.set_cons_succ]
          refine wpAnyH_take (i := 14) (v := ?tv66) rfl (by kernel_rfl) (by kernel_rfl) (by kernel_rfl) (fun _ _ _ h => h) (Or.inl ⟨by rfl, ?ty66⟩) hH64 ?tr66
          case ty66 => intro wq hq; go_simp; with_reducible rfl
          try simp only [Act.put, List.getElem_toArray, List.getElem_cons_succ, List.getElem_cons_zero, List.setIfInBounds_toArray, List.set_cons_zero, List.set_cons_succ]
          refine wpAnyH_take (i := 15) (v := ?tv67) rfl (by kernel_rfl) (by kernel_rfl) (by kernel_rfl) (fun _ _ _ h => h) (Or.inl ⟨by rfl, ?ty67⟩) hH64 ?tr67
          case ty67 => intro wq hq; go_simp; with_reducible rfl
          try simp only [Act.put, List.getElem_toArray, List.getElem_cons_succ, List.getElem_cons_zero, List.setIfInBounds_toArray, List.set_cons_zero, List.set_cons_succ]
          refine wpAnyH_ready (rs := [16, 17]) (by kernel_rfl) (by simp) ?_
          refine AllReadyH.cons rfl (fun K hK => ?_) (AllReadyH.cons rfl (fun K hK => ?_) AllReadyH.nil)
          · rw [if_pos (by rfl)]
            go_simp
            refine hK.out _ _ (hH64.alloc hH64.size (.cells (List.replicate 32 (V8 0)).toArray 23)) (fun hH68 => ?_)
            clear hK K
            try simp only [Act.put, List.getElem_toArray, List.getElem_cons_succ, List.getElem_cons_zero, List.setIfInBounds_toArray, List.set_cons_zero, List.set_cons_succ]
            have hA68 := Arr.new W64 23 (List.replicate 32 (V8 0))
            have hga : w1.heap.size ≤ W64.heap.size := hH64.size
            change wpAnyH _ _ _ _ _ _ _ _ (W64.alloc (.cells (List.replicate 32 (V8 0)).toArray 23))
            clear hH64
            change Below w1.heap.size w1 (W64.alloc (.cells (List.replicate 32 (V8 0)).toArray 23)) at hH68
            generalize W64.alloc (.cells (List.replicate 32 (V8 0)).toArray 23) = W68 at *
            generalize W64.heap.size = ga at *
            refine wpAnyH_ready (rs := [17]) (by kernel_rfl) (by simp) ?_
            refine AllReadyH.cons rfl (fun K hK => ?_) AllReadyH.nil
            · rw [if_pos (by rfl)]
              go_simp
              refine hK.out _ _ (hH68.alloc hH68.size (.cells (List.replicate 32 (V8 0)).toArray 23)) (fun hH69 => ?_)
              clear hK K
              try simp only [Act.put, List.getElem_toArray, List.getElem_cons_succ, List.getElem_cons_zero, List.setIfInBounds_toArray, List.set_cons_zero, List.set_cons_succ]
              have hB69 := Arr.new W68 23 (List.replicate 32 (V8 0))
              have hA69 := hA68.alloc (.cells (List.replicate 32 (V8 0)).toArray 23)
              have hgne : ga < W68.heap.size := hA68.lt
              clear hA68
              have hgb : w1.heap.size ≤ W68.heap.size := hH68.size
              change wpAnyH _ _ _ _ _ _ _ _ (W68.alloc (.cells (List.replicate 32 (V8 0)).toArray 23))
              clear hH68
              change Below w1.heap.size w1 (W68.alloc (.cells (List.replicate 32 (V8 0)).toArray 23)) at hH69
              generalize W68.alloc (.cells (List.replicate 32 (V8 0)).toArray 23) = W69 at *
              generalize W68.heap.size = gb at *
              refine wpAnyH_ready (rs := [18]) (by kernel_rfl) (by simp) ?_
              refine AllReadyH.cons rfl (fun K hK => ?_) AllReadyH.nil
              · rw [if_pos (by rfl)]
                refine wp_store_row 23 (.tmp 16) (.tmp 72) rfl ga lra.toArray rfl rfl 23 _ hA69 lra_HI.out lra_HS.out lra_HO.out ?_
                refine hK.out _ _ (below_setRow hH69 (by omega) _) (fun hH70 => ?_)
                clear hK K
                try simp only [Act.put, List.getElem_toArray, List.getElem_cons_succ, List.getElem_cons_zero, List.setIfInBounds_toArray, List.set_cons_zero, List.set_cons_succ]
                have hA70 := hA69.setRow lra.toArray; have hB70 := hB69.setRow_other ga lra.toArray (by omega)
                change Arr (W69.setRow ga lra.toArray) ga 23 lra at hA70
                change wpAnyH _ _ _ _ _ _ _ _ (W69.setRow ga lra.toArray)
                change Below w1.heap.size w1 (W69.setRow ga lra.toArray) at hH70
                clear hA69 hB69 hH69
                generalize W69.setRow ga lra.toArray = W70 at *
                refine wpAnyH_ready (rs := [19]) (by kernel_rfl) (by simp) ?_
                refine AllReadyH.cons rfl (fun K hK => ?_) AllReadyH.nil
                · rw [if_pos (by rfl)]
                  refine wp_store_row 23 (.tmp 17) (.tmp 73) rfl gb lrb.toArray rfl rfl 23 _ hB70 lrb_HI.out lrb_HS.out lrb_HO.out ?_
                  refine hK.out _ _ (below_setRow hH70 (by omega) _) (fun hH71 => ?_)
                  clear hK K
                  try simp only [Act.put, List.getElem_toArray, List.getElem_cons_succ, List.getElem_cons_zero, List.setIfInBounds_toArray, List.set_cons_zero, List.set_cons_succ]
                  have hB71 := hB70.setRow lrb.toArray; have hA71 := hA70.setRow_other gb lrb.toArray (by omega)
                  change Arr (W70.setRow gb lrb.toArray) gb 23 lrb at hB71
                  change wpAnyH _ _ _ _ _ _ _ _ (W70.setRow gb lrb.toArray)
                  change Below w1.heap.size w1 (W70.setRow gb lrb.toArray) at hH71
                  clear hA70 hB70 hH70
                  generalize W70.setRow gb lrb.toArray = W71 at *
                  refine wpAnyH_done (by kernel_rfl) ?_ _
                  simp only [List.getElem_toArray, List.getElem_cons_succ, List.getElem_cons_zero, Exit.then, Act.put, List.setIfInBounds_toArray, List.set_cons_zero, List.set_cons_succ]
                  go_at_K
                  have hX := hH71; have xA := hA71; have xB := hB71
                  clear hH71 hA71 hB71
                  generalize W71 = wx at *
                  go_upto_region 10 with (fail)
                  have xL := hFS.below hX jG
                  have x1 := j1.below hX j1.lt
                  have x2 := j2.below hX j2.lt
                  have xBw := jB.trans (hX.mono (by have := jB.size; omega))
                  have rA := xA.range; have rB := xB.range; have rL := xL.range
                  have lA := xA.lt; have lB := xB.lt; have lL := xL.lt
                  refine wp_region_class 6 [] [0, 1, 2, 3, 4, 5] (Below wx.heap.size wx) (Stable.below wx) (Below.refl _ _).drew (by kernel_rfl) (by kernel_rfl) ?_
                  simp only [opsOf, List.getElem?_cons_succ, List.getElem?_cons_zero, List.drop_succ_cons, List.drop_zero]
                  refine wpL_val (.agg ld.toArray) rfl (by rfl) (fun wq hq => quiet_ld 23 _ rfl _ _ rfl ld _ (range_below rL hq lL) hu.out rfl hDI.out) ?_
                  try simp only [Act.put, List.setIfInBounds_toArray, List.set_cons_zero, List.set_cons_succ]
                  refine wpL_val (.agg lra.toArray) rfl (by rfl) (fun wq hq => quiet_ld 23 _ rfl _ _ rfl lra _ (range_below rA hq lA) hu.out rfl hRAI.out) ?_
                  try simp only [Act.put, List.setIfInBounds_toArray, List.set_cons_zero, List.set_cons_succ]
                  refine wpL_val ?v74 rfl (by rfl) (fun wq hq => ?y74) ?z74
                  case y74 => go_simp; exact hnd1 _
                  try simp only [Act.put, List.setIfInBounds_toArray, List.set_cons_zero, List.set_cons_succ]
                  refine wpL_val (.agg ld.toArray) rfl (by rfl) (fun wq hq => quiet_ld 23 _ rfl _ _ rfl ld _ (range_below rL hq lL) hu.out rfl hDI.out) ?_
                  try simp only [Act.put, List.setIfInBounds_toArray, List.set_cons_zero, List.set_cons_succ]
                  refine wpL_val (.agg lrb.toArray) rfl (by rfl) (fun wq hq => quiet_ld 23 _ rfl _ _ rfl lrb _ (range_below rB hq lB) hu.out rfl hRBI.out) ?_
                  try simp only [Act.put, List.setIfInBounds_toArray, List.set_cons_zero, List.set_cons_succ]
                  refine wpL_val ?v77 rfl (by rfl) (fun wq hq => ?y77) ?z77
                  case y77 => go_simp; exact hnd _
                  try simp only [Act.put, List.setIfInBounds_toArray, List.set_cons_zero, List.set_cons_succ]
                  refine wpL_nil ?_
                  intro wt hwt
                  have y1 := x1.below hwt x1.lt
                  have y2 := x2.below hwt x2.lt
                  have yB := xBw.trans (hwt.mono (by have := xBw.size; omega))
                  have s1 := y1.setRow ly.toArray
                  have s2 := y2.setRow_other (A + 1) ly.toArray (by omega)
                  have t1 := s1.setRow_other (A + 1 + 1) lx.toArray (by omega)
                  have tB : Below A w ((wt.setRow (A + 1) ly.toArray).setRow (A + 1 + 1) lx.toArray) := below_setRow (below_setRow yB (by omega) _) (by omega) _
                  (try rw [HX1.out]); (try rw [HX2.out])
                  go_wp2_with (first | ((with_reducible refine at_st 23 (.tmp 10) (.tmp 76) ?_); refine wpList_store_row rfl 23 (.tmp 10) (.tmp 76) rfl (A + 1) ly.toArray rfl rfl 23 _ y1 ly_HI.out ly_HS.out ly_HO.out ?_) | ((with_reducible refine at_st 23 (.tmp 11) (.tmp 79) ?_); refine wpList_store_row rfl 23 (.tmp 11) (.tmp 79) rfl (A + 1 + 1) lx.toArray rfl rfl 23 _ s2 lx_HI.out lx_HS.out lx_HO.out ?_))
                  exact bodyPost_ret (v := .tuple #[.agg ly.toArray, .agg lx.toArray]) (results_rr rfl _ _ (A + 1) (A + 1 + 1) 23 _ _ _ _ _ rfl rfl t1 (setRow_heap _ _ _ _ _ _ s2) hu.out rfl ly_HI.out lx_HI.out) rfl ⟨by simp only [HX1.out, HX2.out], by (try rw [hAe]); exact tB⟩
          · rw [if_pos (by rfl)]
            go_simp
            refine hK.out _ _ (hH64.alloc hH64.size (.cells (List.replicate 32 (V8 0)).toArray 23)) (fun hH72 => ?_)
            clear hK K
            try simp only [Act.put, List.getElem_toArray, List.getElem_cons_succ, List.getElem_cons_zero, List.setIfInBounds_toArray, List.set_cons_zero, List.set_cons_succ]
            have hB72 := Arr.new W64 23 (List.replicate 32 (V8 0))
            have hgb : w1.heap.size ≤ W64.heap.size := hH64.size
            change wpAnyH _ _ _ _ _ _ _ _ (W64.alloc (.cells (List.replicate 32 (V8 0)).toArray 23))
            clear hH64
            change Below w1.heap.size w1 (W64.alloc (.cells (List.replicate 32 (V8 0)).toArray 23)) at hH72
            generalize W64.alloc (.cells (List.replicate 32 (V8 0)).toArray 23) = W72 at *
            generalize W64.heap.size = gb at *
            refine wpAnyH_ready (rs := [16]) (by kernel_rfl) (by simp) ?_
            refine AllReadyH.cons rfl (fun K hK => ?_) AllReadyH.nil
            · rw [if_pos (by rfl)]
              go_simp
              refine hK.out _ _ (hH72.alloc hH72.size (.cells (List.replicate 32 (V8 0)).toArray 23)) (fun hH73 => ?_)
              clear hK K
              try simp only [Act.put, List.getElem_toArray, List.getElem_cons_succ, List.getElem_cons_zero, List.setIfInBounds_toArray, List.set_cons_zero, List.set_cons_succ]
              have hA73 := Arr.new W72 23 (List.replicate 32 (V8 0))
              have hB73 := hB72.alloc (.cells (List.replicate 32 (V8 0)).toArray 23)
              have hgne : gb < W72.heap.size := hB72.lt
              clear hB72
              have hga : w1.heap.size ≤ W72.heap.size := hH72.size
              change wpAnyH _ _ _ _ _ _ _ _ (W72.alloc (.cells (List.replicate 32 (V8 0)).toArray 23))
              clear hH72
              change Below w1.heap.size w1 (W72.alloc (.cells (List.replicate 32 (V8 0)).toArray 23)) at hH73
              generalize W72.alloc (.cells (List.replicate 32 (V8 0)).toArray 23) = W73 at *
              generalize W72.heap.size = ga at *
              refine wpAnyH_ready (rs := [18]) (by kernel_rfl) (by simp) ?_
              refine AllReadyH.cons rfl (fun K hK => ?_) AllReadyH.nil
              · rw [if_pos (by rfl)]
                refine wp_store_row 23 (.tmp 16) (.tmp 72) rfl ga lra.toArray rfl rfl 23 _ hA73 lra_HI.out lra_HS.out lra_HO.out ?_
                refine hK.out _ _ (below_setRow hH73 (by omega) _) (fun hH74 => ?_)
                clear hK K
                try simp only [Act.put, List.getElem_toArray, List.getElem_cons_succ, List.getElem_cons_zero, List.setIfInBounds_toArray, List.set_cons_zero, List.set_cons_succ]
                have hA74 := hA73.setRow lra.toArray; have hB74 := hB73.setRow_other ga lra.toArray (by omega)
                change Arr (W73.setRow ga lra.toArray) ga 23 lra at hA74
                change wpAnyH _ _ _ _ _ _ _ _ (W73.setRow ga lra.toArray)
                change Below w1.heap.size w1 (W73.setRow ga lra.toArray) at hH74
                clear hA73 hB73 hH73
                generalize W73.setRow ga lra.toArray = W74 at *
                refine wpAnyH_ready (rs := [19]) (by kernel_rfl) (by simp) ?_
                refine AllReadyH.cons rfl (fun K hK => ?_) AllReadyH.nil
                · rw [if_pos (by rfl)]
                  refine wp_store_row 23 (.tmp 17) (.tmp 73) rfl gb lrb.toArray rfl rfl 23 _ hB74 lrb_HI.out lrb_HS.out lrb_HO.out ?_
                  refine hK.out _ _ (below_setRow hH74 (by omega) _) (fun hH75 => ?_)
                  clear hK K
                  try simp only [Act.put, List.getElem_toArray, List.getElem_cons_succ, List.getElem_cons_zero, List.setIfInBounds_toArray, List.set_cons_zero, List.set_cons_succ]
                  have hB75 := hB74.setRow lrb.toArray; have hA75 := hA74.setRow_other gb lrb.toArray (by omega)
                  change Arr (W74.setRow gb lrb.toArray) gb 23 lrb at hB75
                  change wpAnyH _ _ _ _ _ _ _ _ (W74.setRow gb lrb.toArray)
                  change Below w1.heap.size w1 (W74.setRow gb lrb.toArray) at hH75
                  clear hA74 hB74 hH74
                  generalize W74.setRow gb lrb.toArray = W75 at *
                  refine wpAnyH_done (by kernel_rfl) ?_ _
                  simp only [List.getElem_toArray, List.getElem_cons_succ, List.getElem_cons_zero, Exit.then, Act.put, List.setIfInBounds_toArray, List.set_cons_zero, List.set_cons_succ]
                  go_at_K
                  have hX := hH75; have xA := hA75; have xB := hB75
                  clear hH75 hA75 hB75
                  generalize W75 = wx at *
                  go_upto_region 10 with (fail)
                  have xL := hFS.below hX jG
                  have x1 := j1.below hX j1.lt
                  have x2 := j2.below hX j2.lt
                  have xBw := jB.trans (hX.mono (by have := jB.size; omega))
                  have rA := xA.range; have rB := xB.range; have rL := xL.range
                  have lA := xA.lt; have lB := xB.lt; have lL := xL.lt
                  refine wp_region_class 6 [] [0, 1, 2, 3, 4, 5] (Below wx.heap.size wx) (Stable.below wx) (Below.refl _ _).drew (by kernel_rfl) (by kernel_rfl) ?_
                  simp only [opsOf, List.getElem?_cons_succ, List.getElem?_cons_zero, List.drop_succ_cons, List.drop_zero]
                  refine wpL_val (.agg ld.toArray) rfl (by rfl) (fun wq hq => quiet_ld 23 _ rfl _ _ rfl ld _ (range_below rL hq lL) hu.out rfl hDI.out) ?_
                  try simp only [Act.put, List.setIfInBounds_toArray, List.set_cons_zero, List.set_cons_succ]
                  refine wpL_val (.agg lra.toArray) rfl (by rfl) (fun wq hq => quiet_ld 23 _ rfl _ _ rfl lra _ (range_below rA hq lA) hu.out rfl hRAI.out) ?_
                  try simp only [Act.put, List.setIfInBounds_toArray, List.set_cons_zero, List.set_cons_succ]
                  refine wpL_val ?v82 rfl (by rfl) (fun wq hq => ?y82) ?z82
                  case y82 => go_simp; exact hnd1 _
                  try simp only [Act.put, List.setIfInBounds_toArray, List.set_cons_zero, List.set_cons_succ]
                  refine wpL_val (.agg ld.toArray) rfl (by rfl) (fun wq hq => quiet_ld 23 _ rfl _ _ rfl ld _ (range_below rL hq lL) hu.out rfl hDI.out) ?_
                  try simp only [Act.put, List.setIfInBounds_toArray, List.set_cons_zero, List.set_cons_succ]
                  refine wpL_val (.agg lrb.toArray) rfl (by rfl) (fun wq hq => quiet_ld 23 _ rfl _ _ rfl lrb _ (range_below rB hq lB) hu.out rfl hRBI.out) ?_
                  try simp only [Act.put, List.setIfInBounds_toArray, List.set_cons_zero, List.set_cons_succ]
                  refine wpL_val ?v85 rfl (by rfl) (fun wq hq => ?y85) ?z85
                  case y85 => go_simp; exact hnd _
                  try simp only [Act.put, List.setIfInBounds_toArray, List.set_cons_zero, List.set_cons_succ]
                  refine wpL_nil ?_
                  intro wt hwt
                  have y1 := x1.below hwt x1.lt
                  have y2 := x2.below hwt x2.lt
                  have yB := xBw.trans (hwt.mono (by have := xBw.size; omega))
                  have s1 := y1.setRow ly.toArray
                  have s2 := y2.setRow_other (A + 1) ly.toArray (by omega)
                  have t1 := s1.setRow_other (A + 1 + 1) lx.toArray (by omega)
                  have tB : Below A w ((wt.setRow (A + 1) ly.toArray).setRow (A + 1 + 1) lx.toArray) := below_setRow (below_setRow yB (by omega) _) (by omega) _
                  (try rw [HX1.out]); (try rw [HX2.out])
                  go_wp2_with (first | ((with_reducible refine at_st 23 (.tmp 10) (.tmp 76) ?_); refine wpList_store_row rfl 23 (.tmp 10) (.tmp 76) rfl (A + 1) ly.toArray rfl rfl 23 _ y1 ly_HI.out ly_HS.out ly_HO.out ?_) | ((with_reducible refine at_st 23 (.tmp 11) (.tmp 79) ?_); refine wpList_store_row rfl 23 (.tmp 11) (.tmp 79) rfl (A + 1 + 1) lx.toArray rfl rfl 23 _ s2 lx_HI.out lx_HS.out lx_HO.out ?_))
                  exact bodyPost_ret (v := .tuple #[.agg ly.toArray, .agg lx.toArray]) (results_rr rfl _ _ (A + 1) (A + 1 + 1) 23 _ _ _ _ _ rfl rfl t1 (setRow_heap _ _ _ _ _ _ s2) hu.out rfl ly_HI.out lx_HI.out) rfl ⟨by simp only [HX1.out, HX2.out], by (try rw [hAe]); exact tB⟩
        · rw [if_pos (by rfl)]
          go_simp
          refine hK.out _ _ (hH52.alloc hH52.size (.cells (List.replicate 32 (V8 0)).toArray 23)) (fun hH76 => ?_)
          clear hK K
          try simp only [Act.put, List.getElem_toArray, List.getElem_cons_succ, List.getElem_cons_zero, List.setIfInBounds_toArray, List.set_cons_zero, List.set_cons_succ]
          have hA76 := Arr.new W52 23 (List.replicate 32 (V8 0))
          have hga : w1.heap.size ≤ W52.heap.size := hH52.size
          change wpAnyH _ _ _ _ _ _ _ _ (W52.alloc (.cells (List.replicate 32 (V8 0)).toArray 23))
          clear hH52
          change Below w1.heap.size w1 (W52.alloc (.cells (List.replicate 32 (V8 0)).toArray 23)) at hH76
          generalize W52.alloc (.cells (List.replicate 32 (V8 0)).toArray 23) = W76 at *
          generalize W52.heap.size = ga at *
          refine wpAnyH_ready (rs := [12, 17]) (by kernel_rfl) (by simp) ?_
          refine AllReadyH.cons rfl (fun K hK => ?_) (AllReadyH.cons rfl (fun K hK => ?_) AllReadyH.nil)
          · rw [if_pos (by rfl)]
            go_simp
            refine (ihc _ _ (jT.below hH76 (Nat.le_refl _))).mono ?_
            rintro e W77 ⟨rfl, hb77⟩
            rw [HRA.out, HRB.out]
            refine hK.out _ _ (hH76.trans (hb77.mono hH76.size)) (fun hH77 => ?_)
            clear hK K
            try simp only [Act.put, List.getElem_toArray, List.getElem_cons_succ, List.getElem_cons_zero, List.setIfInBounds_toArray, List.set_cons_zero, List.set_cons_succ]
            have hA77 := hA76.below hb77 hA76.lt; clear hA76
            clear hb77 hH76
            refine wpAnyH_take (i := 13) (v := ?tv78) rfl (by kernel_rfl) (by kernel_rfl) (by kernel_rfl) (fun _ _ _ h => h) (Or.inl ⟨by rfl, ?ty78⟩) hH77 ?tr78
            case ty78 => intro wq hq; go_simp; with_reducible rfl
            try simp only [Act.put, List.getElem_toArray, List.getElem_cons_succ, List.getElem_cons_zero, List.setIfInBounds_toArray, List.set_cons_zero, List.set_cons_succ]
            refine wpAnyH_take (i := 14) (v := ?tv79) rfl (by kernel_rfl) (by kernel_rfl) (by kernel_rfl) (fun _ _ _ h => h) (Or.inl ⟨by rfl, ?ty79⟩) hH77 ?tr79
            case ty79 => intro wq hq; go_simp; with_reducible rfl
            try simp only [Act.put, List.getElem_toArray, List.getElem_cons_succ, List.getElem_cons_zero, List.setIfInBounds_toArray, List.set_cons_zero, List.set_cons_succ]
            refine wpAnyH_take (i := 15) (v := ?tv80) rfl (by kernel_rfl) (by kernel_rfl) (by kernel_rfl) (fun _ _ _ h => h) (Or.inl ⟨by rfl, ?ty80⟩) hH77 ?tr80
            case ty80 => intro wq hq; go_simp; with_reducible rfl
            try simp only [Act.put, List.getElem_toArray, List.getElem_cons_succ, List.getElem_cons_zero, List.setIfInBounds_toArray, List.set_cons_zero, List.set_cons_succ]
            refine wpAnyH_ready (rs := [17]) (by kernel_rfl) (by simp) ?_
            refine AllReadyH.cons rfl (fun K hK => ?_) AllReadyH.nil
            · rw [if_pos (by rfl)]
              go_simp
              refine hK.out _ _ (hH77.alloc hH77.size (.cells (List.replicate 32 (V8 0)).toArray 23)) (fun hH81 => ?_)
              clear hK K
              try simp only [Act.put, List.getElem_toArray, List.getElem_cons_succ, List.getElem_cons_zero, List.setIfInBounds_toArray, List.set_cons_zero, List.set_cons_succ]
              have hB81 := Arr.new W77 23 (List.replicate 32 (V8 0))
              have hA81 := hA77.alloc (.cells (List.replicate 32 (V8 0)).toArray 23)
              have hgne : ga < W77.heap.size := hA77.lt
              clear hA77
              have hgb : w1.heap.size ≤ W77.heap.size := hH77.size
              change wpAnyH _ _ _ _ _ _ _ _ (W77.alloc (.cells (List.replicate 32 (V8 0)).toArray 23))
              clear hH77
              change Below w1.heap.size w1 (W77.alloc (.cells (List.replicate 32 (V8 0)).toArray 23)) at hH81
              generalize W77.alloc (.cells (List.replicate 32 (V8 0)).toArray 23) = W81 at *
              generalize W77.heap.size = gb at *
              refine wpAnyH_ready (rs := [18]) (by kernel_rfl) (by simp) ?_
              refine AllReadyH.cons rfl (fun K hK => ?_) AllReadyH.nil
              · rw [if_pos (by rfl)]
                refine wp_store_row 23 (.tmp 16) (.tmp 72) rfl ga lra.toArray rfl rfl 23 _ hA81 lra_HI.out lra_HS.out lra_HO.out ?_
                refine hK.out _ _ (below_setRow hH81 (by omega) _) (fun hH82 => ?_)
                clear hK K
                try simp only [Act.put, List.getElem_toArray, List.getElem_cons_succ, List.getElem_cons_zero, List.setIfInBounds_toArray, List.set_cons_zero, List.set_cons_succ]
                have hA82 := hA81.setRow lra.toArray; have hB82 := hB81.setRow_other ga lra.toArray (by omega)
                change Arr (W81.setRow ga lra.toArray) ga 23 lra at hA82
                change wpAnyH _ _ _ _ _ _ _ _ (W81.setRow ga lra.toArray)
                change Below w1.heap.size w1 (W81.setRow ga lra.toArray) at hH82
                clear hA81 hB81 hH81
                generalize W81.setRow ga lra.toArray = W82 at *
                refine wpAnyH_ready (rs := [19]) (by kernel_rfl) (by simp) ?_
                refine AllReadyH.cons rfl (fun K hK => ?_) AllReadyH.nil
                · rw [if_pos (by rfl)]
                  refine wp_store_row 23 (.tmp 17) (.tmp 73) rfl gb lrb.toArray rfl rfl 23 _ hB82 lrb_HI.out lrb_HS.out lrb_HO.out ?_
                  refine hK.out _ _ (below_setRow hH82 (by omega) _) (fun hH83 => ?_)
                  clear hK K
                  try simp only [Act.put, List.getElem_toArray, List.getElem_cons_succ, List.getElem_cons_zero, List.setIfInBounds_toArray, List.set_cons_zero, List.set_cons_succ]
                  have hB83 := hB82.setRow lrb.toArray; have hA83 := hA82.setRow_other gb lrb.toArray (by omega)
                  change Arr (W82.setRow gb lrb.toArray) gb 23 lrb at hB83
                  change wpAnyH _ _ _ _ _ _ _ _ (W82.setRow gb lrb.toArray)
                  change Below w1.heap.size w1 (W82.setRow gb lrb.toArray) at hH83
                  clear hA82 hB82 hH82
                  generalize W82.setRow gb lrb.toArray = W83 at *
                  refine wpAnyH_done (by kernel_rfl) ?_ _
                  simp only [List.getElem_toArray, List.getElem_cons_succ, List.getElem_cons_zero, Exit.then, Act.put, List.setIfInBounds_toArray, List.set_cons_zero, List.set_cons_succ]
                  go_at_K
                  have hX := hH83; have xA := hA83; have xB := hB83
                  clear hH83 hA83 hB83
                  generalize W83 = wx at *
                  go_upto_region 10 with (fail)
                  have xL := hFS.below hX jG
                  have x1 := j1.below hX j1.lt
                  have x2 := j2.below hX j2.lt
                  have xBw := jB.trans (hX.mono (by have := jB.size; omega))
                  have rA := xA.range; have rB := xB.range; have rL := xL.range
                  have lA := xA.lt; have lB := xB.lt; have lL := xL.lt
                  refine wp_region_class 6 [] [0, 1, 2, 3, 4, 5] (Below wx.heap.size wx) (Stable.below wx) (Below.refl _ _).drew (by kernel_rfl) (by kernel_rfl) ?_
                  simp only [opsOf, List.getElem?_cons_succ, List.getElem?_cons_zero, List.drop_succ_cons, List.drop_zero]
                  refine wpL_val (.agg ld.toArray) rfl (by rfl) (fun wq hq => quiet_ld 23 _ rfl _ _ rfl ld _ (range_below rL hq lL) hu.out rfl hDI.out) ?_
                  try simp only [Act.put, List.setIfInBounds_toArray, List.set_cons_zero, List.set_cons_succ]
                  refine wpL_val (.agg lra.toArray) rfl (by rfl) (fun wq hq => quiet_ld 23 _ rfl _ _ rfl lra _ (range_below rA hq lA) hu.out rfl hRAI.out) ?_
                  try simp only [Act.put, List.setIfInBounds_toArray, List.set_cons_zero, List.set_cons_succ]
                  refine wpL_val ?v90 rfl (by rfl) (fun wq hq => ?y90) ?z90
                  case y90 => go_simp; exact hnd1 _
                  try simp only [Act.put, List.setIfInBounds_toArray, List.set_cons_zero, List.set_cons_succ]
                  refine wpL_val (.agg ld.toArray) rfl (by rfl) (fun wq hq => quiet_ld 23 _ rfl _ _ rfl ld _ (range_below rL hq lL) hu.out rfl hDI.out) ?_
                  try simp only [Act.put, List.setIfInBounds_toArray, List.set_cons_zero, List.set_cons_succ]
                  refine wpL_val (.agg lrb.toArray) rfl (by rfl) (fun wq hq => quiet_ld 23 _ rfl _ _ rfl lrb _ (range_below rB hq lB) hu.out rfl hRBI.out) ?_
                  try simp only [Act.put, List.setIfInBounds_toArray, List.set_cons_zero, List.set_cons_succ]
                  refine wpL_val ?v93 rfl (by rfl) (fun wq hq => ?y93) ?z93
                  case y93 => go_simp; exact hnd _
                  try simp only [Act.put, List.setIfInBounds_toArray, List.set_cons_zero, List.set_cons_succ]
                  refine wpL_nil ?_
                  intro wt hwt
                  have y1 := x1.below hwt x1.lt
                  have y2 := x2.below hwt x2.lt
                  have yB := xBw.trans (hwt.mono (by have := xBw.size; omega))
                  have s1 := y1.setRow ly.toArray
                  have s2 := y2.setRow_other (A + 1) ly.toArray (by omega)
                  have t1 := s1.setRow_other (A + 1 + 1) lx.toArray (by omega)
                  have tB : Below A w ((wt.setRow (A + 1) ly.toArray).setRow (A + 1 + 1) lx.toArray) := below_setRow (below_setRow yB (by omega) _) (by omega) _
                  (try rw [HX1.out]); (try rw [HX2.out])
                  go_wp2_with (first | ((with_reducible refine at_st 23 (.tmp 10) (.tmp 76) ?_); refine wpList_store_row rfl 23 (.tmp 10) (.tmp 76) rfl (A + 1) ly.toArray rfl rfl 23 _ y1 ly_HI.out ly_HS.out ly_HO.out ?_) | ((with_reducible refine at_st 23 (.tmp 11) (.tmp 79) ?_); refine wpList_store_row rfl 23 (.tmp 11) (.tmp 79) rfl (A + 1 + 1) lx.toArray rfl rfl 23 _ s2 lx_HI.out lx_HS.out lx_HO.out ?_))
                  exact bodyPost_ret (v := .tuple #[.agg ly.toArray, .agg lx.toArray]) (results_rr rfl _ _ (A + 1) (A + 1 + 1) 23 _ _ _ _ _ rfl rfl t1 (setRow_heap _ _ _ _ _ _ s2) hu.out rfl ly_HI.out lx_HI.out) rfl ⟨by simp only [HX1.out, HX2.out], by (try rw [hAe]); exact tB⟩
          · rw [if_pos (by rfl)]
            go_simp
            refine hK.out _ _ (hH76.alloc hH76.size (.cells (List.replicate 32 (V8 0)).toArray 23)) (fun hH84 => ?_)
            clear hK K
            try simp only [Act.put, List.getElem_toArray, List.getElem_cons_succ, List.getElem_cons_zero, List.setIfInBounds_toArray, List.set_cons_zero, List.set_cons_succ]
            have hB84 := Arr.new W76 23 (List.replicate 32 (V8 0))
            have hA84 := hA76.alloc (.cells (List.replicate 32 (V8 0)).toArray 23)
            have hgne : ga < W76.heap.size := hA76.lt
            clear hA76
            have hgb : w1.heap.size ≤ W76.heap.size := hH76.size
            change wpAnyH _ _ _ _ _ _ _ _ (W76.alloc (.cells (List.replicate 32 (V8 0)).toArray 23))
            clear hH76
            change Below w1.heap.size w1 (W76.alloc (.cells (List.replicate 32 (V8 0)).toArray 23)) at hH84
            generalize W76.alloc (.cells (List.replicate 32 (V8 0)).toArray 23) = W84 at *
            generalize W76.heap.size = gb at *
            refine wpAnyH_ready (rs := [12]) (by kernel_rfl) (by simp) ?_
            refine AllReadyH.cons rfl (fun K hK => ?_) AllReadyH.nil
            · rw [if_pos (by rfl)]
              go_simp
              refine (ihc _ _ (jT.below hH84 (Nat.le_refl _))).mono ?_
              rintro e W85 ⟨rfl, hb85⟩
              rw [HRA.out, HRB.out]
              refine hK.out _ _ (hH84.trans (hb85.mono hH84.size)) (fun hH85 => ?_)
              clear hK K
              try simp only [Act.put, List.getElem_toArray, List.getElem_cons_succ, List.getElem_cons_zero, List.setIfInBounds_toArray, List.set_cons_zero, List.set_cons_succ]
              have hA85 := hA84.below hb85 hA84.lt; clear hA84
              have hB85 := hB84.below hb85 hB84.lt; clear hB84
              clear hb85 hH84
              refine wpAnyH_take (i := 13) (v := ?tv86) rfl (by kernel_rfl) (by kernel_rfl) (by kernel_rfl) (fun _ _ _ h => h) (Or.inl ⟨by rfl, ?ty86⟩) hH85 ?tr86
              case ty86 => intro wq hq; go_simp; with_reducible rfl
              try simp only [Act.put, List.getElem_toArray, List.getElem_cons_succ, List.getElem_cons_zero, List.setIfInBounds_toArray, List.set_cons_zero, List.set_cons_succ]
              refine wpAnyH_take (i := 14) (v := ?tv87) rfl (by kernel_rfl) (by kernel_rfl) (by kernel_rfl) (fun _ _ _ h => h) (Or.inl ⟨by rfl, ?ty87⟩) hH85 ?tr87
              case ty87 => intro wq hq; go_simp; with_reducible rfl
              try simp only [Act.put, List.getElem_toArray, List.getElem_cons_succ, List.getElem_cons_zero, List.setIfInBounds_toArray, List.set_cons_zero, List.set_cons_succ]
              refine wpAnyH_take (i := 15) (v := ?tv88) rfl (by kernel_rfl) (by kernel_rfl) (by kernel_rfl) (fun _ _ _ h => h) (Or.inl ⟨by rfl, ?ty88⟩) hH85 ?tr88
              case ty88 => intro wq hq; go_simp; with_reducible rfl
              try simp only [Act.put, List.getElem_toArray, List.getElem_cons_succ, List.getElem_cons_zero, List.setIfInBounds_toArray, List.set_cons_zero, List.set_cons_succ]
              refine wpAnyH_ready (rs := [18]) (by kernel_rfl) (by simp) ?_
              refine AllReadyH.cons rfl (fun K hK => ?_) AllReadyH.nil
              · rw [if_pos (by rfl)]
                refine wp_store_row 23 (.tmp 16) (.tmp 72) rfl ga lra.toArray rfl rfl 23 _ hA85 lra_HI.out lra_HS.out lra_HO.out ?_
                refine hK.out _ _ (below_setRow hH85 (by omega) _) (fun hH89 => ?_)
                clear hK K
                try simp only [Act.put, List.getElem_toArray, List.getElem_cons_succ, List.getElem_cons_zero, List.setIfInBounds_toArray, List.set_cons_zero, List.set_cons_succ]
                have hA89 := hA85.setRow lra.toArray; have hB89 := hB85.setRow_other ga lra.toArray (by omega)
                change Arr (W85.setRow ga lra.toArray) ga 23 lra at hA89
                change wpAnyH _ _ _ _ _ _ _ _ (W85.setRow ga lra.toArray)
                change Below w1.heap.size w1 (W85.setRow ga lra.toArray) at hH89
                clear hA85 hB85 hH85
                generalize W85.setRow ga lra.toArray = W89 at *
                refine wpAnyH_ready (rs := [19]) (by kernel_rfl) (by simp) ?_
                refine AllReadyH.cons rfl (fun K hK => ?_) AllReadyH.nil
                · rw [if_pos (by rfl)]
                  refine wp_store_row 23 (.tmp 17) (.tmp 73) rfl gb lrb.toArray rfl rfl 23 _ hB89 lrb_HI.out lrb_HS.out lrb_HO.out ?_
                  refine hK.out _ _ (below_setRow hH89 (by omega) _) (fun hH90 => ?_)
                  clear hK K
                  try simp only [Act.put, List.getElem_toArray, List.getElem_cons_succ, List.getElem_cons_zero, List.setIfInBounds_toArray, List.set_cons_zero, List.set_cons_succ]
                  have hB90 := hB89.setRow lrb.toArray; have hA90 := hA89.setRow_other gb lrb.toArray (by omega)
                  change Arr (W89.setRow gb lrb.toArray) gb 23 lrb at hB90
                  change wpAnyH _ _ _ _ _ _ _ _ (W89.setRow gb lrb.toArray)
                  change Below w1.heap.size w1 (W89.setRow gb lrb.toArray) at hH90
                  clear hA89 hB89 hH89
                  generalize W89.setRow gb lrb.toArray = W90 at *
                  refine wpAnyH_done (by kernel_rfl) ?_ _
                  simp only [List.getElem_toArray, List.getElem_cons_succ, List.getElem_cons_zero, Exit.then, Act.put, List.setIfInBounds_toArray, List.set_cons_zero, List.set_cons_succ]
                  go_at_K
                  have hX := hH90; have xA := hA90; have xB := hB90
                  clear hH90 hA90 hB90
                  generalize W90 = wx at *
                  go_upto_region 10 with (fail)
                  have xL := hFS.below hX jG
                  have x1 := j1.below hX j1.lt
                  have x2 := j2.below hX j2.lt
                  have xBw := jB.trans (hX.mono (by have := jB.size; omega))
                  have rA := xA.range; have rB := xB.range; have rL := xL.range
                  have lA := xA.lt; have lB := xB.lt; have lL := xL.lt
                  refine wp_region_class 6 [] [0, 1, 2, 3, 4, 5] (Below wx.heap.size wx) (Stable.below wx) (Below.refl _ _).drew (by kernel_rfl) (by kernel_rfl) ?_
                  simp only [opsOf, List.getElem?_cons_succ, List.getElem?_cons_zero, List.drop_succ_cons, List.drop_zero]
                  refine wpL_val (.agg ld.toArray) rfl (by rfl) (fun wq hq => quiet_ld 23 _ rfl _ _ rfl ld _ (range_below rL hq lL) hu.out rfl hDI.out) ?_
                  try simp only [Act.put, List.setIfInBounds_toArray, List.set_cons_zero, List.set_cons_succ]
                  refine wpL_val (.agg lra.toArray) rfl (by rfl) (fun wq hq => quiet_ld 23 _ rfl _ _ rfl lra _ (range_below rA hq lA) hu.out rfl hRAI.out) ?_
                  try simp only [Act.put, List.setIfInBounds_toArray, List.set_cons_zero, List.set_cons_succ]
                  refine wpL_val ?v98 rfl (by rfl) (fun wq hq => ?y98) ?z98
                  case y98 => go_simp; exact hnd1 _
                  try simp only [Act.put, List.setIfInBounds_toArray, List.set_cons_zero, List.set_cons_succ]
                  refine wpL_val (.agg ld.toArray) rfl (by rfl) (fun wq hq => quiet_ld 23 _ rfl _ _ rfl ld _ (range_below rL hq lL) hu.out rfl hDI.out) ?_
                  try simp only [Act.put, List.setIfInBounds_toArray, List.set_cons_zero, List.set_cons_succ]
                  refine wpL_val (.agg lrb.toArray) rfl (by rfl) (fun wq hq => quiet_ld 23 _ rfl _ _ rfl lrb _ (range_below rB hq lB) hu.out rfl hRBI.out) ?_
                  try simp only [Act.put, List.setIfInBounds_toArray, List.set_cons_zero, List.set_cons_succ]
                  refine wpL_val ?v101 rfl (by rfl) (fun wq hq => ?y101) ?z101
                  case y101 => go_simp; exact hnd _
                  try simp only [Act.put, List.setIfInBounds_toArray, List.set_cons_zero, List.set_cons_succ]
                  refine wpL_nil ?_
                  intro wt hwt
                  have y1 := x1.below hwt x1.lt
                  have y2 := x2.below hwt x2.lt
                  have yB := xBw.trans (hwt.mono (by have := xBw.size; omega))
                  have s1 := y1.setRow ly.toArray
                  have s2 := y2.setRow_other (A + 1) ly.toArray (by omega)
                  have t1 := s1.setRow_other (A + 1 + 1) lx.toArray (by omega)
                  have tB : Below A w ((wt.setRow (A + 1) ly.toArray).setRow (A + 1 + 1) lx.toArray) := below_setRow (below_setRow yB (by omega) _) (by omega) _
                  (try rw [HX1.out]); (try rw [HX2.out])
                  go_wp2_with (first | ((with_reducible refine at_st 23 (.tmp 10) (.tmp 76) ?_); refine wpList_store_row rfl 23 (.tmp 10) (.tmp 76) rfl (A + 1) ly.toArray rfl rfl 23 _ y1 ly_HI.out ly_HS.out ly_HO.out ?_) | ((with_reducible refine at_st 23 (.tmp 11) (.tmp 79) ?_); refine wpList_store_row rfl 23 (.tmp 11) (.tmp 79) rfl (A + 1 + 1) lx.toArray rfl rfl 23 _ s2 lx_HI.out lx_HS.out lx_HO.out ?_))
                  exact bodyPost_ret (v := .tuple #[.agg ly.toArray, .agg lx.toArray]) (results_rr rfl _ _ (A + 1) (A + 1 + 1) 23 _ _ _ _ _ rfl rfl t1 (setRow_heap _ _ _ _ _ _ s2) hu.out rfl ly_HI.out lx_HI.out) rfl ⟨by simp only [HX1.out, HX2.out], by (try rw [hAe]); exact tB⟩
        · rw [if_pos (by rfl)]
          go_simp
          refine hK.out _ _ (hH52.alloc hH52.size (.cells (List.replicate 32 (V8 0)).toArray 23)) (fun hH91 => ?_)
          clear hK K
          try simp only [Act.put, List.getElem_toArray, List.getElem_cons_succ, List.getElem_cons_zero, List.setIfInBounds_toArray, List.set_cons_zero, List.set_cons_succ]
          have hB91 := Arr.new W52 23 (List.replicate 32 (V8 0))
          have hgb : w1.heap.size ≤ W52.heap.size := hH52.size
          change wpAnyH _ _ _ _ _ _ _ _ (W52.alloc (.cells (List.replicate 32 (V8 0)).toArray 23))
          clear hH52
          change Below w1.heap.size w1 (W52.alloc (.cells (List.replicate 32 (V8 0)).toArray 23)) at hH91
          generalize W52.alloc (.cells (List.replicate 32 (V8 0)).toArray 23) = W91 at *
          generalize W52.heap.size = gb at *
          refine wpAnyH_ready (rs := [12, 16]) (by kernel_rfl) (by simp) ?_
          refine AllReadyH.cons rfl (fun K hK => ?_) (AllReadyH.cons rfl (fun K hK => ?_) AllReadyH.nil)
          · rw [if_pos (by rfl)]
            go_simp
            refine (ihc _ _ (jT.below hH91 (Nat.le_refl _))).mono ?_
            rintro e W92 ⟨rfl, hb92⟩
            rw [HRA.out, HRB.out]
            refine hK.out _ _ (hH91.trans (hb92.mono hH91.size)) (fun hH92 => ?_)
            clear hK K
            try simp only [Act.put, List.getElem_toArray, List.getElem_cons_succ, List.getElem_cons_zero, List.setIfInBounds_toArray, List.set_cons_zero, List.set_cons_succ]
            have hB92 := hB91.below hb92 hB91.lt; clear hB91
            clear hb92 hH91
            refine wpAnyH_take (i := 13) (v := ?tv93) rfl (by kernel_rfl) (by kernel_rfl) (by kernel_rfl) (fun _ _ _ h => h) (Or.inl ⟨by rfl, ?ty93⟩) hH92 ?tr93
            case ty93 => intro wq hq; go_simp; with_reducible rfl
            try simp only [Act.put, List.getElem_toArray, List.getElem_cons_succ, List.getElem_cons_zero, List.setIfInBounds_toArray, List.set_cons_zero, List.set_cons_succ]
            refine wpAnyH_take (i := 14) (v := ?tv94) rfl (by kernel_rfl) (by kernel_rfl) (by kernel_rfl) (fun _ _ _ h => h) (Or.inl ⟨by rfl, ?ty94⟩) hH92 ?tr94
            case ty94 => intro wq hq; go_simp; with_reducible rfl
            try simp only [Act.put, List.getElem_toArray, List.getElem_cons_succ, List.getElem_cons_zero, List.setIfInBounds_toArray, List.set_cons_zero, List.set_cons_succ]
            refine wpAnyH_take (i := 15) (v := ?tv95) rfl (by kernel_rfl) (by kernel_rfl) (by kernel_rfl) (fun _ _ _ h => h) (Or.inl ⟨by rfl, ?ty95⟩) hH92 ?tr95
            case ty95 => intro wq hq; go_simp; with_reducible rfl
            try simp only [Act.put, List.getElem_toArray, List.getElem_cons_succ, List.getElem_cons_zero, List.setIfInBounds_toArray, List.set_cons_zero, List.set_cons_succ]
            refine wpAnyH_ready (rs := [16]) (by kernel_rfl) (by simp) ?_
            refine AllReadyH.cons rfl (fun K hK => ?_) AllReadyH.nil
            · rw [if_pos (by rfl)]
              go_simp
              refine hK.out _ _ (hH92.alloc hH92.size (.cells (List.replicate 32 (V8 0)).toArray 23)) (fun hH96 => ?_)
              clear hK K
              try simp only [Act.put, List.getElem_toArray, List.getElem_cons_succ, List.getElem_cons_zero, List.setIfInBounds_toArray, List.set_cons_zero, List.set_cons_succ]
              have hA96 := Arr.new W92 23 (List.replicate 32 (V8 0))
              have hB96 := hB92.alloc (.cells (List.replicate 32 (V8 0)).toArray 23)
              have hgne : gb < W92.heap.size := hB92.lt
              clear hB92
              have hga : w1.heap.size ≤ W92.heap.size := hH92.size
              change wpAnyH _ _ _ _ _ _ _ _ (W92.alloc (.cells (List.replicate 32 (V8 0)).toArray 23))
              clear hH92
              change Below w1.heap.size w1 (W92.alloc (.cells (List.replicate 32 (V8 0)).toArray 23)) at hH96
              generalize W92.alloc (.cells (List.replicate 32 (V8 0)).toArray 23) = W96 at *
              generalize W92.heap.size = ga at *
              refine wpAnyH_ready (rs := [18]) (by kernel_rfl) (by simp) ?_
              refine AllReadyH.cons rfl (fun K hK => ?_) AllReadyH.nil
              · rw [if_pos (by rfl)]
                refine wp_store_row 23 (.tmp 16) (.tmp 72) rfl ga lra.toArray rfl rfl 23 _ hA96 lra_HI.out lra_HS.out lra_HO.out ?_
                refine hK.out _ _ (below_setRow hH96 (by omega) _) (fun hH97 => ?_)
                clear hK K
                try simp only [Act.put, List.getElem_toArray, List.getElem_cons_succ, List.getElem_cons_zero, List.setIfInBounds_toArray, List.set_cons_zero, List.set_cons_succ]
                have hA97 := hA96.setRow lra.toArray; have hB97 := hB96.setRow_other ga lra.toArray (by omega)
                change Arr (W96.setRow ga lra.toArray) ga 23 lra at hA97
                change wpAnyH _ _ _ _ _ _ _ _ (W96.setRow ga lra.toArray)
                change Below w1.heap.size w1 (W96.setRow ga lra.toArray) at hH97
                clear hA96 hB96 hH96
                generalize W96.setRow ga lra.toArray = W97 at *
                refine wpAnyH_ready (rs := [19]) (by kernel_rfl) (by simp) ?_
                refine AllReadyH.cons rfl (fun K hK => ?_) AllReadyH.nil
                · rw [if_pos (by rfl)]
                  refine wp_store_row 23 (.tmp 17) (.tmp 73) rfl gb lrb.toArray rfl rfl 23 _ hB97 lrb_HI.out lrb_HS.out lrb_HO.out ?_
                  refine hK.out _ _ (below_setRow hH97 (by omega) _) (fun hH98 => ?_)
                  clear hK K
                  try simp only [Act.put, List.getElem_toArray, List.getElem_cons_succ, List.getElem_cons_zero, List.setIfInBounds_toArray, List.set_cons_zero, List.set_cons_succ]
                  have hB98 := hB97.setRow lrb.toArray; have hA98 := hA97.setRow_other gb lrb.toArray (by omega)
                  change Arr (W97.setRow gb lrb.toArray) gb 23 lrb at hB98
                  change wpAnyH _ _ _ _ _ _ _ _ (W97.setRow gb lrb.toArray)
                  change Below w1.heap.size w1 (W97.setRow gb lrb.toArray) at hH98
                  clear hA97 hB97 hH97
                  generalize W97.setRow gb lrb.toArray = W98 at *
                  refine wpAnyH_done (by kernel_rfl) ?_ _
                  simp only [List.getElem_toArray, List.getElem_cons_succ, List.getElem_cons_zero, Exit.then, Act.put, List.setIfInBounds_toArray, List.set_cons_zero, List.set_cons_succ]
                  go_at_K
                  have hX := hH98; have xA := hA98; have xB := hB98
                  clear hH98 hA98 hB98
                  generalize W98 = wx at *
                  go_upto_region 10 with (fail)
                  have xL := hFS.below hX jG
                  have x1 := j1.below hX j1.lt
                  have x2 := j2.below hX j2.lt
                  have xBw := jB.trans (hX.mono (by have := jB.size; omega))
                  have rA := xA.range; have rB := xB.range; have rL := xL.range
                  have lA := xA.lt; have lB := xB.lt; have lL := xL.lt
                  refine wp_region_class 6 [] [0, 1, 2, 3, 4, 5] (Below wx.heap.size wx) (Stable.below wx) (Below.refl _ _).drew (by kernel_rfl) (by kernel_rfl) ?_
                  simp only [opsOf, List.getElem?_cons_succ, List.getElem?_cons_zero, List.drop_succ_cons, List.drop_zero]
                  refine wpL_val (.agg ld.toArray) rfl (by rfl) (fun wq hq => quiet_ld 23 _ rfl _ _ rfl ld _ (range_below rL hq lL) hu.out rfl hDI.out) ?_
                  try simp only [Act.put, List.setIfInBounds_toArray, List.set_cons_zero, List.set_cons_succ]
                  refine wpL_val (.agg lra.toArray) rfl (by rfl) (fun wq hq => quiet_ld 23 _ rfl _ _ rfl lra _ (range_below rA hq lA) hu.out rfl hRAI.out) ?_
                  try simp only [Act.put, List.setIfInBounds_toArray, List.set_cons_zero, List.set_cons_succ]
                  refine wpL_val ?v106 rfl (by rfl) (fun wq hq => ?y106) ?z106
                  case y106 => go_simp; exact hnd1 _
                  try simp only [Act.put, List.setIfInBounds_toArray, List.set_cons_zero, List.set_cons_succ]
                  refine wpL_val (.agg ld.toArray) rfl (by rfl) (fun wq hq => quiet_ld 23 _ rfl _ _ rfl ld _ (range_below rL hq lL) hu.out rfl hDI.out) ?_
                  try simp only [Act.put, List.setIfInBounds_toArray, List.set_cons_zero, List.set_cons_succ]
                  refine wpL_val (.agg lrb.toArray) rfl (by rfl) (fun wq hq => quiet_ld 23 _ rfl _ _ rfl lrb _ (range_below rB hq lB) hu.out rfl hRBI.out) ?_
                  try simp only [Act.put, List.setIfInBounds_toArray, List.set_cons_zero, List.set_cons_succ]
                  refine wpL_val ?v109 rfl (by rfl) (fun wq hq => ?y109) ?z109
                  case y109 => go_simp; exact hnd _
                  try simp only [Act.put, List.setIfInBounds_toArray, List.set_cons_zero, List.set_cons_succ]
                  refine wpL_nil ?_
                  intro wt hwt
                  have y1 := x1.below hwt x1.lt
                  have y2 := x2.below hwt x2.lt
                  have yB := xBw.trans (hwt.mono (by have := xBw.size; omega))
                  have s1 := y1.setRow ly.toArray
                  have s2 := y2.setRow_other (A + 1) ly.toArray (by omega)
                  have t1 := s1.setRow_other (A + 1 + 1) lx.toArray (by omega)
                  have tB : Below A w ((wt.setRow (A + 1) ly.toArray).setRow (A + 1 + 1) lx.toArray) := below_setRow (below_setRow yB (by omega) _) (by omega) _
                  (try rw [HX1.out]); (try rw [HX2.out])
                  go_wp2_with (first | ((with_reducible refine at_st 23 (.tmp 10) (.tmp 76) ?_); refine wpList_store_row rfl 23 (.tmp 10) (.tmp 76) rfl (A + 1) ly.toArray rfl rfl 23 _ y1 ly_HI.out ly_HS.out ly_HO.out ?_) | ((with_reducible refine at_st 23 (.tmp 11) (.tmp 79) ?_); refine wpList_store_row rfl 23 (.tmp 11) (.tmp 79) rfl (A + 1 + 1) lx.toArray rfl rfl 23 _ s2 lx_HI.out lx_HS.out lx_HO.out ?_))
                  exact bodyPost_ret (v := .tuple #[.agg ly.toArray, .agg lx.toArray]) (results_rr rfl _ _ (A + 1) (A + 1 + 1) 23 _ _ _ _ _ rfl rfl t1 (setRow_heap _ _ _ _ _ _ s2) hu.out rfl ly_HI.out lx_HI.out) rfl ⟨by simp only [HX1.out, HX2.out], by (try rw [hAe]); exact tB⟩
          · rw [if_pos (by rfl)]
            go_simp
            refine hK.out _ _ (hH91.alloc hH91.size (.cells (List.replicate 32 (V8 0)).toArray 23)) (fun hH99 => ?_)
            clear hK K
            try simp only [Act.put, List.getElem_toArray, List.getElem_cons_succ, List.getElem_cons_zero, List.setIfInBounds_toArray, List.set_cons_zero, List.set_cons_succ]
            have hA99 := Arr.new W91 23 (List.replicate 32 (V8 0))
            have hB99 := hB91.alloc (.cells (List.replicate 32 (V8 0)).toArray 23)
            have hgne : gb < W91.heap.size := hB91.lt
            clear hB91
            have hga : w1.heap.size ≤ W91.heap.size := hH91.size
            change wpAnyH _ _ _ _ _ _ _ _ (W91.alloc (.cells (List.replicate 32 (V8 0)).toArray 23))
            clear hH91
            change Below w1.heap.size w1 (W91.alloc (.cells (List.replicate 32 (V8 0)).toArray 23)) at hH99
            generalize W91.alloc (.cells (List.replicate 32 (V8 0)).toArray 23) = W99 at *
            generalize W91.heap.size = ga at *
            refine wpAnyH_ready (rs := [12]) (by kernel_rfl) (by simp) ?_
            refine AllReadyH.cons rfl (fun K hK => ?_) AllReadyH.nil
            · rw [if_pos (by rfl)]
              go_simp
              refine (ihc _ _ (jT.below hH99 (Nat.le_refl _))).mono ?_
              rintro e W100 ⟨rfl, hb100⟩
              rw [HRA.out, HRB.out]
              refine hK.out _ _ (hH99.trans (hb100.mono hH99.size)) (fun hH100 => ?_)
              clear hK K
              try simp only [Act.put, List.getElem_toArray, List.getElem_cons_succ, List.getElem_cons_zero, List.setIfInBounds_toArray, List.set_cons_zero, List.set_cons_succ]
              have hA100 := hA99.below hb100 hA99.lt; clear hA99
              have hB100 := hB99.below hb100 hB99.lt; clear hB99
              clear hb100 hH99
              refine wpAnyH_take (i := 13) (v := ?tv101) rfl (by kernel_rfl) (by kernel_rfl) (by kernel_rfl) (fun _ _ _ h => h) (Or.inl ⟨by rfl, ?ty101⟩) hH100 ?tr101
              case ty101 => intro wq hq; go_simp; with_reducible rfl
              try simp only [Act.put, List.getElem_toArray, List.getElem_cons_succ, List.getElem_cons_zero, List.setIfInBounds_toArray, List.set_cons_zero, List.set_cons_succ]
              refine wpAnyH_take (i := 14) (v := ?tv102) rfl (by kernel_rfl) (by kernel_rfl) (by kernel_rfl) (fun _ _ _ h => h) (Or.inl ⟨by rfl, ?ty102⟩) hH100 ?tr102
              case ty102 => intro wq hq; go_simp; with_reducible rfl
              try simp only [Act.put, List.getElem_toArray, List.getElem_cons_succ, List.getElem_cons_zero, List.setIfInBounds_toArray, List.set_cons_zero, List.set_cons_succ]
              refine wpAnyH_take (i := 15) (v := ?tv103) rfl (by kernel_rfl) (by kernel_rfl) (by kernel_rfl) (fun _ _ _ h => h) (Or.inl ⟨by rfl, ?ty103⟩) hH100 ?tr103
              case ty103 => intro wq hq; go_simp; with_reducible rfl
              try simp only [Act.put, List.getElem_toArray, List.getElem_cons_succ, List.getElem_cons_zero, List.setIfInBounds_toArray, List.set_cons_zero, List.set_cons_succ]
              refine wpAnyH_ready (rs := [18]) (by kernel_rfl) (by simp) ?_
              refine AllReadyH.cons rfl (fun K hK => ?_) AllReadyH.nil
              · rw [if_pos (by rfl)]
                refine wp_store_row 23 (.tmp 16) (.tmp 72) rfl ga lra.toArray rfl rfl 23 _ hA100 lra_HI.out lra_HS.out lra_HO.out ?_
                refine hK.out _ _ (below_setRow hH100 (by omega) _) (fun hH104 => ?_)
                clear hK K
                try simp only [Act.put, List.getElem_toArray, List.getElem_cons_succ, List.getElem_cons_zero, List.setIfInBounds_toArray, List.set_cons_zero, List.set_cons_succ]
                have hA104 := hA100.setRow lra.toArray; have hB104 := hB100.setRow_other ga lra.toArray (by omega)
                change Arr (W100.setRow ga lra.toArray) ga 23 lra at hA104
                change wpAnyH _ _ _ _ _ _ _ _ (W100.setRow ga lra.toArray)
                change Below w1.heap.size w1 (W100.setRow ga lra.toArray) at hH104
                clear hA100 hB100 hH100
                generalize W100.setRow ga lra.toArray = W104 at *
                refine wpAnyH_ready (rs := [19]) (by kernel_rfl) (by simp) ?_
                refine AllReadyH.cons rfl (fun K hK => ?_) AllReadyH.nil
                · rw [if_pos (by rfl)]
                  refine wp_store_row 23 (.tmp 17) (.tmp 73) rfl gb lrb.toArray rfl rfl 23 _ hB104 lrb_HI.out lrb_HS.out lrb_HO.out ?_
                  refine hK.out _ _ (below_setRow hH104 (by omega) _) (fun hH105 => ?_)
                  clear hK K
                  try simp only [Act.put, List.getElem_toArray, List.getElem_cons_succ, List.getElem_cons_zero, List.setIfInBounds_toArray, List.set_cons_zero, List.set_cons_succ]
                  have hB105 := hB104.setRow lrb.toArray; have hA105 := hA104.setRow_other gb lrb.toArray (by omega)
                  change Arr (W104.setRow gb lrb.toArray) gb 23 lrb at hB105
                  change wpAnyH _ _ _ _ _ _ _ _ (W104.setRow gb lrb.toArray)
                  change Below w1.heap.size w1 (W104.setRow gb lrb.toArray) at hH105
                  clear hA104 hB104 hH104
                  generalize W104.setRow gb lrb.toArray = W105 at *
                  refine wpAnyH_done (by kernel_rfl) ?_ _
                  simp only [List.getElem_toArray, List.getElem_cons_succ, List.getElem_cons_zero, Exit.then, Act.put, List.setIfInBounds_toArray, List.set_cons_zero, List.set_cons_succ]
                  go_at_K
                  have hX := hH105; have xA := hA105; have xB := hB105
                  clear hH105 hA105 hB105
                  generalize W105 = wx at *
                  go_upto_region 10 with (fail)
                  have xL := hFS.below hX jG
                  have x1 := j1.below hX j1.lt
                  have x2 := j2.below hX j2.lt
                  have xBw := jB.trans (hX.mono (by have := jB.size; omega))
                  have rA := xA.range; have rB := xB.range; have rL := xL.range
                  have lA := xA.lt; have lB := xB.lt; have lL := xL.lt
                  refine wp_region_class 6 [] [0, 1, 2, 3, 4, 5] (Below wx.heap.size wx) (Stable.below wx) (Below.refl _ _).drew (by kernel_rfl) (by kernel_rfl) ?_
                  simp only [opsOf, List.getElem?_cons_succ, List.getElem?_cons_zero, List.drop_succ_cons, List.drop_zero]
                  refine wpL_val (.agg ld.toArray) rfl (by rfl) (fun wq hq => quiet_ld 23 _ rfl _ _ rfl ld _ (range_below rL hq lL) hu.out rfl hDI.out) ?_
                  try simp only [Act.put, List.setIfInBounds_toArray, List.set_cons_zero, List.set_cons_succ]
                  refine wpL_val (.agg lra.toArray) rfl (by rfl) (fun wq hq => quiet_ld 23 _ rfl _ _ rfl lra _ (range_below rA hq lA) hu.out rfl hRAI.out) ?_
                  try simp only [Act.put, List.setIfInBounds_toArray, List.set_cons_zero, List.set_cons_succ]
                  refine wpL_val ?v114 rfl (by rfl) (fun wq hq => ?y114) ?z114
                  case y114 => go_simp; exact hnd1 _
                  try simp only [Act.put, List.setIfInBounds_toArray, List.set_cons_zero, List.set_cons_succ]
                  refine wpL_val (.agg ld.toArray) rfl (by rfl) (fun wq hq => quiet_ld 23 _ rfl _ _ rfl ld _ (range_below rL hq lL) hu.out rfl hDI.out) ?_
                  try simp only [Act.put, List.setIfInBounds_toArray, List.set_cons_zero, List.set_cons_succ]
                  refine wpL_val (.agg lrb.toArray) rfl (by rfl) (fun wq hq => quiet_ld 23 _ rfl _ _ rfl lrb _ (range_below rB hq lB) hu.out rfl hRBI.out) ?_
                  try simp only [Act.put, List.setIfInBounds_toArray, List.set_cons_zero, List.set_cons_succ]
                  refine wpL_val ?v117 rfl (by rfl) (fun wq hq => ?y117) ?z117
                  case y117 => go_simp; exact hnd _
                  try simp only [Act.put, List.setIfInBounds_toArray, List.set_cons_zero, List.set_cons_succ]
                  refine wpL_nil ?_
                  intro wt hwt
                  have y1 := x1.below hwt x1.lt
                  have y2 := x2.below hwt x2.lt
                  have yB := xBw.trans (hwt.mono (by have := xBw.size; omega))
                  have s1 := y1.setRow ly.toArray
                  have s2 := y2.setRow_other (A + 1) ly.toArray (by omega)
                  have t1 := s1.setRow_other (A + 1 + 1) lx.toArray (by omega)
                  have tB : Below A w ((wt.setRow (A + 1) ly.toArray).setRow (A + 1 + 1) lx.toArray) := below_setRow (below_setRow yB (by omega) _) (by omega) _
                  (try rw [HX1.out]); (try rw [HX2.out])
                  go_wp2_with (first | ((with_reducible refine at_st 23 (.tmp 10) (.tmp 76) ?_); refine wpList_store_row rfl 23 (.tmp 10) (.tmp 76) rfl (A + 1) ly.toArray rfl rfl 23 _ y1 ly_HI.out ly_HS.out ly_HO.out ?_) | ((with_reducible refine at_st 23 (.tmp 11) (.tmp 79) ?_); refine wpList_store_row rfl 23 (.tmp 11) (.tmp 79) rfl (A + 1 + 1) lx.toArray rfl rfl 23 _ s2 lx_HI.out lx_HS.out lx_HO.out ?_))
                  exact bodyPost_ret (v := .tuple #[.agg ly.toArray, .agg lx.toArray]) (results_rr rfl _ _ (A + 1) (A + 1 + 1) 23 _ _ _ _ _ rfl rfl t1 (setRow_heap _ _ _ _ _ _ s2) hu.out rfl ly_HI.out lx_HI.out) rfl ⟨by simp only [HX1.out, HX2.out], by (try rw [hAe]); exact tB⟩
end Go.Proofs.YteehpfccegnjjaaDoor
