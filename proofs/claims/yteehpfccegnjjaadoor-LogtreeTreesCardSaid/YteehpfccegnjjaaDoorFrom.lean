/-
  The walk of the law LogtreeFrom.
-/
import Derived.Test.YteehpfccegnjjaaDoorFromA
namespace Go.Proofs.YteehpfccegnjjaaDoor
open Go Go.RowKit
abbrev claimL (leaf : List UInt8) (i n : Int) (u : Value) : List Value := leaf.map V8 ++ [Value.int .i64 i, Value.int .i64 n, u]
set_option maxRecDepth 100000 in
set_option linter.unusedSimpArgs false in
set_option maxHeartbeats 2000000 in
theorem from_law (leaf : List UInt8) (i n : Int) (u : Value) (path : List (List UInt8)) (w : World) (hl : leaf.length = 32) (hD : Digs w u path) (hK : KT w) :
    Calls Tryd.prog 4 #[.agg (claimL leaf i n u).toArray] w fun e w' => e = .returned (.bool true) ∧ Below w.heap.size w w' := by
  obtain ⟨la, hA, hlm, hal, hao⟩ := v8_list leaf hl
  obtain ⟨av, cv, rfl⟩ := hD.shape
  have hcl : claimL leaf i n (.slice av path.length cv) = la ++ [Value.int .i64 i, Value.int .i64 n, .slice av path.length cv] := by rw [hlm]
  rw [hcl]
  clear hcl hlm
  have HD := Lib.hid hD
  have Hk := Lib.hid hK
  clear hD hK
  have hAA := Arr.new w 40 (la ++ [Value.int .i64 i, Value.int .i64 n, .slice av path.length cv])
  have hr0 : (w.alloc (.cells (la ++ [Value.int .i64 i, Value.int .i64 n, .slice av path.length cv]).toArray 40)).rangeAt w.heap.size 0 la := fun j x hj => by
    rw [Nat.zero_add, hAA.cell j, List.getElem?_append_left (List.getElem?_eq_some_iff.1 hj).1]; exact hj
  have hc32 := hAA.cell 32; have hc33 := hAA.cell 33; have hc34 := hAA.cell 34
  rw [List.getElem?_append_right (by omega), hal] at hc32 hc33 hc34
  simp only [Nat.sub_self, List.getElem?_cons_zero, show 33 - 32 = 1 from rfl, show 34 - 32 = 2 from rfl, List.getElem?_cons_succ] at hc32 hc33 hc34
  have hlt := hAA.lt
  have hW0 := below_alloc w (.cells (la ++ [Value.int .i64 i, Value.int .i64 n, .slice av path.length cv]).toArray 40)
  clear hAA
  generalize la ++ [Value.int .i64 i, Value.int .i64 n, .slice av path.length cv] = lc at *
  have HR0 := Lib.hid hr0; have H32 := Lib.hid hc32; have H33 := Lib.hid hc33; have H34 := Lib.hid hc34; have HW0 := Lib.hid hW0; have HLT := Lib.hid hlt
  clear hr0 hc32 hc33 hc34 hW0 hlt
  have hu := Lib.hid Tryd.underlying24
  have huR := Lib.hid Tryd.underlying23
  by_cases h30 : path.length ≤ 30
  · have hown := fun w hV => own_any path (.slice av path.length cv) w (by omega) hV
    have hfrom := fun v w hV hK => from_any leaf i n path v w hl h30 hV hK
    have hfromR := fun w hV => fromRS_any leaf i n path (.slice av path.length cv) w hl hV
    have hrl := fromS_length leaf hl i n path
    rw [hA] at hfrom hfromR
    generalize fromS leaf i n path = rc at *
    obtain ⟨r, code⟩ := rc
    simp only at hrl hfrom hfromR
    obtain ⟨lr, hRR, -, hlrl, hlro⟩ := v8_list r hrl
    have HRT := Lib.hid hRR; have HRT2 := Lib.hid hRR
    have HRI := Lib.hid (inf_size infD32 lr hlrl); have HRS := Lib.hid (st_size lr hlrl); have HRO := Lib.hid (all_oneCell_toArray hlro)
    have HRIR := Lib.hid (inf_size infR32 lr hlrl)
    have HRL := Lib.hid (show (Tryd.prog.info? 24).map (·.size) = some lr.length by rw [hlrl]; exact infD32)
    have HRLR := Lib.hid (show (Tryd.prog.info? 23).map (·.size) = some lr.length by rw [hlrl]; exact infR32)
    have HLI := Lib.hid (show (Tryd.prog.info? 23).map (·.size) = some la.length by rw [hal]; exact infR32)
    have hm30 : ¬ ((30 : Int) < ((path.length : Nat) : Int)) := by omega
    have hd30 : decide ((30 : Int) < ((path.length : Nat) : Int)) = false := decide_eq_false hm30
    clear hRR hlro hA hao h30
    generalize path.length = m at *
    go_enter Tryd.func4, Tryd.ntmps4
    go_upto_region 1 with (fail)
    change Code.wp _ _ _ _ (w.alloc (.cells lc.toArray 40))
    generalize w.alloc (.cells lc.toArray 40) = w0 at *
    have hr0 := HR0.out; have hc32 := H32.out; have hc33 := H33.out; have hc34 := H34.out; have hW0 := HW0.out; have hAl := HLT.out
    generalize hAe : w.heap.size = A at *
    go_upto_region 3 with (fail)
    have hb1 : Below w0.heap.size w0 w0.drew := (Below.refl _ _).drew
    refine wp_region_held_drew (S := fun w' => Below w0.heap.size w0 w') (by kernel_rfl) hb1 (fun hH0 => ?_)
    generalize w0.drew = W0 at *
    refine wpAnyH_take (i := 0) (v := ?tv24) rfl (by kernel_rfl) (by kernel_rfl) (by kernel_rfl) (fun _ _ _ h => h) (Or.inl ⟨by rfl, ?ty24⟩) hH0 ?tr24
    case ty24 => intro wq hq; go_simp; with_reducible rfl
    try simp only [Act.put, List.getElem_toArray, List.getElem_cons_succ, List.getElem_cons_zero, List.setIfInBounds_toArray, List.set_cons_zero, List.set_cons_succ]
    refine wpAnyH_take (i := 1) rfl (by kernel_rfl) (by kernel_rfl) (by kernel_rfl) (fun _ _ _ h => h) (yieldsIf_load_mid (by rfl) _ _ rfl _ _ rfl la _ (fun w h => range_below hr0 h hAl) huR.out rfl HLI.out) hH0 ?_
    try simp only [Act.put, List.getElem_toArray, List.getElem_cons_succ, List.getElem_cons_zero, List.setIfInBounds_toArray, List.set_cons_zero, List.set_cons_succ]
    refine wpAnyH_take (i := 2) (v := ?tv25) rfl (by kernel_rfl) (by kernel_rfl) (by kernel_rfl) (fun _ _ _ h => h) (Or.inl ⟨by rfl, ?ty25⟩) hH0 ?tr25
    case ty25 => intro wq hq; have c32 := (hq.cell (p := ⟨A, 32, none⟩) hAl).trans hc32; have c33 := (hq.cell (p := ⟨A, 33, none⟩) hAl).trans hc33; have c34 := (hq.cell (p := ⟨A, 34, none⟩) hAl).trans hc34; go_simp; with_reducible rfl
    try simp only [Act.put, List.getElem_toArray, List.getElem_cons_succ, List.getElem_cons_zero, List.setIfInBounds_toArray, List.set_cons_zero, List.set_cons_succ]
    refine wpAnyH_take (i := 3) (v := ?tv26) rfl (by kernel_rfl) (by kernel_rfl) (by kernel_rfl) (fun _ _ _ h => h) (Or.inl ⟨by rfl, ?ty26⟩) hH0 ?tr26
    case ty26 => intro wq hq; have c32 := (hq.cell (p := ⟨A, 32, none⟩) hAl).trans hc32; have c33 := (hq.cell (p := ⟨A, 33, none⟩) hAl).trans hc33; have c34 := (hq.cell (p := ⟨A, 34, none⟩) hAl).trans hc34; go_simp; with_reducible rfl
    try simp only [Act.put, List.getElem_toArray, List.getElem_cons_succ, List.getElem_cons_zero, List.setIfInBounds_toArray, List.set_cons_zero, List.set_cons_succ]
    refine wpAnyH_take (i := 4) (v := ?tv27) rfl (by kernel_rfl) (by kernel_rfl) (by kernel_rfl) (fun _ _ _ h => h) (Or.inl ⟨by rfl, ?ty27⟩) hH0 ?tr27
    case ty27 => intro wq hq; have c32 := (hq.cell (p := ⟨A, 32, none⟩) hAl).trans hc32; have c33 := (hq.cell (p := ⟨A, 33, none⟩) hAl).trans hc33; have c34 := (hq.cell (p := ⟨A, 34, none⟩) hAl).trans hc34; go_simp; with_reducible rfl
    try simp only [Act.put, List.getElem_toArray, List.getElem_cons_succ, List.getElem_cons_zero, List.setIfInBounds_toArray, List.set_cons_zero, List.set_cons_succ]
    refine wpAnyH_take (i := 5) (v := ?tv28) rfl (by kernel_rfl) (by kernel_rfl) (by kernel_rfl) (fun _ _ _ h => h) (Or.inl ⟨by rfl, ?ty28⟩) hH0 ?tr28
    case ty28 => intro wq hq; have c32 := (hq.cell (p := ⟨A, 32, none⟩) hAl).trans hc32; have c33 := (hq.cell (p := ⟨A, 33, none⟩) hAl).trans hc33; have c34 := (hq.cell (p := ⟨A, 34, none⟩) hAl).trans hc34; go_simp; with_reducible rfl
    try simp only [Act.put, List.getElem_toArray, List.getElem_cons_succ, List.getElem_cons_zero, List.setIfInBounds_toArray, List.set_cons_zero, List.set_cons_succ]
    refine wpAnyH_take (i := 6) (v := ?tv29) rfl (by kernel_rfl) (by kernel_rfl) (by kernel_rfl) (fun _ _ _ h => h) (Or.inl ⟨by rfl, ?ty29⟩) hH0 ?tr29
    case ty29 => intro wq hq; have c32 := (hq.cell (p := ⟨A, 32, none⟩) hAl).trans hc32; have c33 := (hq.cell (p := ⟨A, 33, none⟩) hAl).trans hc33; have c34 := (hq.cell (p := ⟨A, 34, none⟩) hAl).trans hc34; go_simp; with_reducible rfl
    try simp only [Act.put, List.getElem_toArray, List.getElem_cons_succ, List.getElem_cons_zero, List.setIfInBounds_toArray, List.set_cons_zero, List.set_cons_succ]
    refine wpAnyH_take (i := 7) (v := ?tv30) rfl (by kernel_rfl) (by kernel_rfl) (by kernel_rfl) (fun _ _ _ h => h) (Or.inl ⟨by rfl, ?ty30⟩) hH0 ?tr30
    case ty30 => intro wq hq; have c32 := (hq.cell (p := ⟨A, 32, none⟩) hAl).trans hc32; have c33 := (hq.cell (p := ⟨A, 33, none⟩) hAl).trans hc33; have c34 := (hq.cell (p := ⟨A, 34, none⟩) hAl).trans hc34; go_simp; with_reducible rfl
    try simp only [Act.put, List.getElem_toArray, List.getElem_cons_succ, List.getElem_cons_zero, List.setIfInBounds_toArray, List.set_cons_zero, List.set_cons_succ]
    refine wpAnyH_ready (rs := [8, 13]) (by kernel_rfl) (by simp) ?_
    refine AllReadyH.cons rfl (fun K hK => ?_) (AllReadyH.cons rfl (fun K hK => ?_) AllReadyH.nil)
    · rw [if_pos (by rfl)]
      go_simp
      refine (hown _ (HD.out.below (hW0.trans (hH0.mono (by omega))) (by omega))).mono ?_
      rintro e W1 ⟨⟨v4, rfl, hV1⟩, hb1⟩
      refine hK.out _ _ (hH0.trans (hb1.mono hH0.size)) (fun hH1 => ?_)
      clear hK K
      try simp only [Act.put, List.getElem_toArray, List.getElem_cons_succ, List.getElem_cons_zero, List.setIfInBounds_toArray, List.set_cons_zero, List.set_cons_succ]
      clear hb1 hH0
      refine wpAnyH_ready (rs := [9, 13]) (by kernel_rfl) (by simp) ?_
      refine AllReadyH.cons rfl (fun K hK => ?_) (AllReadyH.cons rfl (fun K hK => ?_) AllReadyH.nil)
      · rw [if_pos (by rfl)]
        go_simp
        refine (hfrom _ _ hV1 (Hk.out.below (hW0.trans (hH1.mono (by omega))) (by omega))).mono ?_
        rintro e W2 ⟨rfl, hb2⟩
        rw [HRT.out]
        refine hK.out _ _ (hH1.trans (hb2.mono hH1.size)) (fun hH2 => ?_)
        clear hK K
        try simp only [Act.put, List.getElem_toArray, List.getElem_cons_succ, List.getElem_cons_zero, List.setIfInBounds_toArray, List.set_cons_zero, List.set_cons_succ]
        clear hb2 hH1 hV1
        refine wpAnyH_take (i := 10) (v := ?tv3) rfl (by kernel_rfl) (by kernel_rfl) (by kernel_rfl) (fun _ _ _ h => h) (Or.inl ⟨by rfl, ?ty3⟩) hH2 ?tr3
        case ty3 => intro wq hq; go_simp; with_reducible rfl
        try simp only [Act.put, List.getElem_toArray, List.getElem_cons_succ, List.getElem_cons_zero, List.setIfInBounds_toArray, List.set_cons_zero, List.set_cons_succ]
        refine wpAnyH_take (i := 11) (v := ?tv4) rfl (by kernel_rfl) (by kernel_rfl) (by kernel_rfl) (fun _ _ _ h => h) (Or.inl ⟨by rfl, ?ty4⟩) hH2 ?tr4
        case ty4 => intro wq hq; go_simp; with_reducible rfl
        try simp only [Act.put, List.getElem_toArray, List.getElem_cons_succ, List.getElem_cons_zero, List.setIfInBounds_toArray, List.set_cons_zero, List.set_cons_succ]
        refine wpAnyH_take (i := 12) (v := ?tv5) rfl (by kernel_rfl) (by kernel_rfl) (by kernel_rfl) (fun _ _ _ h => h) (Or.inl ⟨by rfl, ?ty5⟩) hH2 ?tr5
        case ty5 => intro wq hq; go_simp; with_reducible rfl
        try simp only [Act.put, List.getElem_toArray, List.getElem_cons_succ, List.getElem_cons_zero, List.setIfInBounds_toArray, List.set_cons_zero, List.set_cons_succ]
        refine wpAnyH_ready (rs := [13]) (by kernel_rfl) (by simp) ?_
        refine AllReadyH.cons rfl (fun K hK => ?_) AllReadyH.nil
        · rw [if_pos (by rfl)]
          go_simp
          refine hK.out _ _ (hH2.alloc hH2.size (.cells (List.replicate 32 (V8 0)).toArray 24)) (fun hH6 => ?_)
          clear hK K
          try simp only [Act.put, List.getElem_toArray, List.getElem_cons_succ, List.getElem_cons_zero, List.setIfInBounds_toArray, List.set_cons_zero, List.set_cons_succ]
          have hA6 := Arr.new W2 24 (List.replicate 32 (V8 0))
          have hg : w0.heap.size ≤ W2.heap.size := hH2.size
          change wpAnyH _ _ _ _ _ _ _ _ (W2.alloc (.cells (List.replicate 32 (V8 0)).toArray 24))
          clear hH2
          change Below w0.heap.size w0 (W2.alloc (.cells (List.replicate 32 (V8 0)).toArray 24)) at hH6
          generalize W2.alloc (.cells (List.replicate 32 (V8 0)).toArray 24) = W6 at *
          generalize W2.heap.size = g at *
          refine wpAnyH_ready (rs := [14]) (by kernel_rfl) (by simp) ?_
          refine AllReadyH.cons rfl (fun K hK => ?_) AllReadyH.nil
          · rw [if_pos (by rfl)]
            refine wp_store_row 24 (.tmp 3) (.tmp 23) rfl g lr.toArray rfl rfl 24 _ hA6 HRI.out HRS.out HRO.out ?_
            refine hK.out _ _ (below_setRow hH6 hg _) (fun hH7 => ?_)
            clear hK K
            try simp only [Act.put, List.getElem_toArray, List.getElem_cons_succ, List.getElem_cons_zero, List.setIfInBounds_toArray, List.set_cons_zero, List.set_cons_succ]
            have hL7 := hA6.setRow lr.toArray
            change Arr (W6.setRow g lr.toArray) g 24 lr at hL7
            change wpAnyH _ _ _ _ _ _ _ _ (W6.setRow g lr.toArray)
            change Below w0.heap.size w0 (W6.setRow g lr.toArray) at hH7
            clear hA6 hH6
            generalize W6.setRow g lr.toArray = W7 at *
            refine wpAnyH_take (i := 15) (v := ?tv8) rfl (by kernel_rfl) (by kernel_rfl) (by kernel_rfl) (fun _ _ _ h => h) (Or.inl ⟨by rfl, ?ty8⟩) hH7 ?tr8
            case ty8 => intro wq hq; go_simp; with_reducible rfl
            try simp only [Act.put, List.getElem_toArray, List.getElem_cons_succ, List.getElem_cons_zero, List.setIfInBounds_toArray, List.set_cons_zero, List.set_cons_succ]
            refine wpAnyH_done (by kernel_rfl) ?_ _
            simp only [List.getElem_toArray, List.getElem_cons_succ, List.getElem_cons_zero, Exit.then, Act.put, List.setIfInBounds_toArray, List.set_cons_zero, List.set_cons_succ]
            go_at_K
            have hX := hH7; have hXL := hL7
            clear hH7 hL7
            generalize W7 = wx at *
            have xB := hW0.trans (hX.mono (by omega))
            have xR := range_below hr0 hX hAl
            have x32 := (hX.cell (p := ⟨A, 32, none⟩) hAl).trans hc32
            have x33 := (hX.cell (p := ⟨A, 33, none⟩) hAl).trans hc33
            have x34 := (hX.cell (p := ⟨A, 34, none⟩) hAl).trans hc34
            have xV := HD.out.below xB (by omega)
            have XR := Lib.hid xR
            clear hX xR
            go_wp2_with ((with_reducible refine at_ld 23 (.tmp 26) ?_); refine wpList_load_mid rfl 23 (.tmp 26) rfl A 0 rfl la _ XR.out huR.out rfl HLI.out ?_)
            refine (hfromR _ xV).mono ?_
            rintro e wy ⟨rfl, hby⟩
            rw [HRT.out]
            have yB := xB.trans (hby.mono (by have := xB.size; omega))
            have yL := hXL.below hby hXL.lt
            clear hby xB hXL xV x32 x33 x34 XR
            have h6 := Lib.hid (one_var wy 23 lr)
            go_upto_region 5 with ((with_reducible refine at_st 23 (.tmp 5) (.tmp 35) ?_); refine wpList_store_row rfl 23 (.tmp 5) (.tmp 35) rfl wy.heap.size lr.toArray rfl rfl 23 _ h6.out.1 HRIR.out HRS.out HRO.out ?_)
            have h7 := h6.out.2
            clear h6
            change Code.wp _ _ _ _ ((wy.alloc (Z32 23)).setRow wy.heap.size lr.toArray)
            generalize (wy.alloc (Z32 23)).setRow wy.heap.size lr.toArray = wz at *
            have zL := yL.below h7.2.1 yL.lt
            have zM := h7.1
            have zB := yB.trans (h7.2.1.mono (by have := yB.size; omega))
            generalize wy.heap.size = gy at *
            clear yL yB h7
            have zR1 := zL.range; have zR2 := zM.range
            have zl1 := zL.lt; have zl2 := zM.lt
            refine wp_region_listed 11 [] (Below wz.heap.size wz) (by decide) (Stable.below wz) (Below.refl _ _) ?_
            simp only [List.range, List.range.loop, opsOf, List.getElem?_cons_succ, List.getElem?_cons_zero, List.drop_succ_cons, List.drop_zero]
            refine wpL_val ?v2 rfl (by rfl) (fun wq hq => ?y2) ?z2
            case y2 => go_simp; exact known_any _ (Hk.out.below (zB.trans (hq.mono (by have := zB.size; omega))) (by omega))
            try simp only [Act.put, List.setIfInBounds_toArray, List.set_cons_zero, List.set_cons_succ]
            refine wpL_val ?v3 rfl (by rfl) (fun wq hq => ?y3) ?z3
            case y3 => go_simp; with_reducible rfl
            try simp only [Act.put, List.setIfInBounds_toArray, List.set_cons_zero, List.set_cons_succ]
            refine wpL_val ?v4 rfl (by rfl) (fun wq hq => ?y4) ?z4
            case y4 => go_simp; with_reducible rfl
            try simp only [Act.put, List.setIfInBounds_toArray, List.set_cons_zero, List.set_cons_succ]
            refine wpL_val ?v5 rfl (by rfl) (fun wq hq => ?y5) ?z5
            case y5 => go_simp; with_reducible rfl
            try simp only [Act.put, List.setIfInBounds_toArray, List.set_cons_zero, List.set_cons_succ]
            refine wpL_val ?v6 rfl (by rfl) (fun wq hq => ?y6) ?z6
            case y6 => go_simp; with_reducible rfl
            try simp only [Act.put, List.setIfInBounds_toArray, List.set_cons_zero, List.set_cons_succ]
            refine wpL_val ?v7 rfl (by rfl) (fun wq hq => ?y7) ?z7
            case y7 => go_simp; with_reducible rfl
            try simp only [Act.put, List.setIfInBounds_toArray, List.set_cons_zero, List.set_cons_succ]
            refine wpL_val ?v8 rfl (by rfl) (fun wq hq => ?y8) ?z8
            case y8 => go_simp; with_reducible rfl
            try simp only [Act.put, List.setIfInBounds_toArray, List.set_cons_zero, List.set_cons_succ]
            refine wpL_val (.agg lr.toArray) rfl (by rfl) (fun wq hq => quiet_ld 24 _ rfl _ _ rfl lr _ (range_below zR1 hq zl1) hu.out rfl HRL.out) ?_
            try simp only [Act.put, List.setIfInBounds_toArray, List.set_cons_zero, List.set_cons_succ]
            refine wpL_val (.agg lr.toArray) rfl (by rfl) (fun wq hq => quiet_ld 23 _ rfl _ _ rfl lr _ (range_below zR2 hq zl2) huR.out rfl HRLR.out) ?_
            try simp only [Act.put, List.setIfInBounds_toArray, List.set_cons_zero, List.set_cons_succ]
            refine wpL_val ?v11 rfl (by rfl) (fun wq hq => ?y11) ?z11
            case y11 => go_simp; rw [eqlR r r hrl hrl _ _ HRT2.out HRT2.out, decide_eq_true rfl]; go_simp; with_reducible rfl
            try simp only [Act.put, List.setIfInBounds_toArray, List.set_cons_zero, List.set_cons_succ]
            refine wpL_val ?v12 rfl (by rfl) (fun wq hq => ?y12) ?z12
            case y12 => go_simp; with_reducible rfl
            try simp only [Act.put, List.setIfInBounds_toArray, List.set_cons_zero, List.set_cons_succ]
            refine wpL_nil ?_
            intro wt hwt
            go_wp2_with fail
            go_ret
            exact ⟨rfl, by (try rw [hAe]); exact zB.trans (hwt.mono (by have := zB.size; omega))⟩
      · rw [if_pos (by rfl)]
        go_simp
        refine hK.out _ _ (hH1.alloc hH1.size (.cells (List.replicate 32 (V8 0)).toArray 24)) (fun hH9 => ?_)
        clear hK K
        try simp only [Act.put, List.getElem_toArray, List.getElem_cons_succ, List.getElem_cons_zero, List.setIfInBounds_toArray, List.set_cons_zero, List.set_cons_succ]
        have hA9 := Arr.new W1 24 (List.replicate 32 (V8 0))
        have hV9 := hV1.below (below_alloc W1 (.cells (List.replicate 32 (V8 0)).toArray 24)) (Nat.le_refl _)
        clear hV1
        have hg : w0.heap.size ≤ W1.heap.size := hH1.size
        change wpAnyH _ _ _ _ _ _ _ _ (W1.alloc (.cells (List.replicate 32 (V8 0)).toArray 24))
        clear hH1
        change Below w0.heap.size w0 (W1.alloc (.cells (List.replicate 32 (V8 0)).toArray 24)) at hH9
        generalize W1.alloc (.cells (List.replicate 32 (V8 0)).toArray 24) = W9 at *
        generalize W1.heap.size = g at *
        refine wpAnyH_ready (rs := [9]) (by kernel_rfl) (by simp) ?_
        refine AllReadyH.cons rfl (fun K hK => ?_) AllReadyH.nil
        · rw [if_pos (by rfl)]
          go_simp
          refine (hfrom _ _ hV9 (Hk.out.below (hW0.trans (hH9.mono (by omega))) (by omega))).mono ?_
          rintro e W10 ⟨rfl, hb10⟩
          rw [HRT.out]
          refine hK.out _ _ (hH9.trans (hb10.mono hH9.size)) (fun hH10 => ?_)
          clear hK K
          try simp only [Act.put, List.getElem_toArray, List.getElem_cons_succ, List.getElem_cons_zero, List.setIfInBounds_toArray, List.set_cons_zero, List.set_cons_succ]
          have hA10 := hA9.below hb10 hA9.lt
          clear hA9
          clear hb10 hH9 hV9
          refine wpAnyH_take (i := 10) (v := ?tv11) rfl (by kernel_rfl) (by kernel_rfl) (by kernel_rfl) (fun _ _ _ h => h) (Or.inl ⟨by rfl, ?ty11⟩) hH10 ?tr11
          case ty11 => intro wq hq; go_simp; with_reducible rfl
          try simp only [Act.put, List.getElem_toArray, List.getElem_cons_succ, List.getElem_cons_zero, List.setIfInBounds_toArray, List.set_cons_zero, List.set_cons_succ]
          refine wpAnyH_take (i := 11) (v := ?tv12) rfl (by kernel_rfl) (by kernel_rfl) (by kernel_rfl) (fun _ _ _ h => h) (Or.inl ⟨by rfl, ?ty12⟩) hH10 ?tr12
          case ty12 => intro wq hq; go_simp; with_reducible rfl
          try simp only [Act.put, List.getElem_toArray, List.getElem_cons_succ, List.getElem_cons_zero, List.setIfInBounds_toArray, List.set_cons_zero, List.set_cons_succ]
          refine wpAnyH_take (i := 12) (v := ?tv13) rfl (by kernel_rfl) (by kernel_rfl) (by kernel_rfl) (fun _ _ _ h => h) (Or.inl ⟨by rfl, ?ty13⟩) hH10 ?tr13
          case ty13 => intro wq hq; go_simp; with_reducible rfl
          try simp only [Act.put, List.getElem_toArray, List.getElem_cons_succ, List.getElem_cons_zero, List.setIfInBounds_toArray, List.set_cons_zero, List.set_cons_succ]
          refine wpAnyH_ready (rs := [14]) (by kernel_rfl) (by simp) ?_
          refine AllReadyH.cons rfl (fun K hK => ?_) AllReadyH.nil
          · rw [if_pos (by rfl)]
            refine wp_store_row 24 (.tmp 3) (.tmp 23) rfl g lr.toArray rfl rfl 24 _ hA10 HRI.out HRS.out HRO.out ?_
            refine hK.out _ _ (below_setRow hH10 hg _) (fun hH14 => ?_)
            clear hK K
            try simp only [Act.put, List.getElem_toArray, List.getElem_cons_succ, List.getElem_cons_zero, List.setIfInBounds_toArray, List.set_cons_zero, List.set_cons_succ]
            have hL14 := hA10.setRow lr.toArray
            change Arr (W10.setRow g lr.toArray) g 24 lr at hL14
            change wpAnyH _ _ _ _ _ _ _ _ (W10.setRow g lr.toArray)
            change Below w0.heap.size w0 (W10.setRow g lr.toArray) at hH14
            clear hA10 hH10
            generalize W10.setRow g lr.toArray = W14 at *
            refine wpAnyH_take (i := 15) (v := ?tv15) rfl (by kernel_rfl) (by kernel_rfl) (by kernel_rfl) (fun _ _ _ h => h) (Or.inl ⟨by rfl, ?ty15⟩) hH14 ?tr15
            case ty15 => intro wq hq; go_simp; with_reducible rfl
            try simp only [Act.put, List.getElem_toArray, List.getElem_cons_succ, List.getElem_cons_zero, List.setIfInBounds_toArray, List.set_cons_zero, List.set_cons_succ]
            refine wpAnyH_done (by kernel_rfl) ?_ _
            simp only [List.getElem_toArray, List.getElem_cons_succ, List.getElem_cons_zero, Exit.then, Act.put, List.setIfInBounds_toArray, List.set_cons_zero, List.set_cons_succ]
            go_at_K
            have hX := hH14; have hXL := hL14
            clear hH14 hL14
            generalize W14 = wx at *
            have xB := hW0.trans (hX.mono (by omega))
            have xR := range_below hr0 hX hAl
            have x32 := (hX.cell (p := ⟨A, 32, none⟩) hAl).trans hc32
            have x33 := (hX.cell (p := ⟨A, 33, none⟩) hAl).trans hc33
            have x34 := (hX.cell (p := ⟨A, 34, none⟩) hAl).trans hc34
            have xV := HD.out.below xB (by omega)
            have XR := Lib.hid xR
            clear hX xR
            go_wp2_with ((with_reducible refine at_ld 23 (.tmp 26) ?_); refine wpList_load_mid rfl 23 (.tmp 26) rfl A 0 rfl la _ XR.out huR.out rfl HLI.out ?_)
            refine (hfromR _ xV).mono ?_
            rintro e wy ⟨rfl, hby⟩
            rw [HRT.out]
            have yB := xB.trans (hby.mono (by have := xB.size; omega))
            have yL := hXL.below hby hXL.lt
            clear hby xB hXL xV x32 x33 x34 XR
            have h6 := Lib.hid (one_var wy 23 lr)
            go_upto_region 5 with ((with_reducible refine at_st 23 (.tmp 5) (.tmp 35) ?_); refine wpList_store_row rfl 23 (.tmp 5) (.tmp 35) rfl wy.heap.size lr.toArray rfl rfl 23 _ h6.out.1 HRIR.out HRS.out HRO.out ?_)
            have h7 := h6.out.2
            clear h6
            change Code.wp _ _ _ _ ((wy.alloc (Z32 23)).setRow wy.heap.size lr.toArray)
            generalize (wy.alloc (Z32 23)).setRow wy.heap.size lr.toArray = wz at *
            have zL := yL.below h7.2.1 yL.lt
            have zM := h7.1
            have zB := yB.trans (h7.2.1.mono (by have := yB.size; omega))
            generalize wy.heap.size = gy at *
            clear yL yB h7
            have zR1 := zL.range; have zR2 := zM.range
            have zl1 := zL.lt; have zl2 := zM.lt
            refine wp_region_listed 11 [] (Below wz.heap.size wz) (by decide) (Stable.below wz) (Below.refl _ _) ?_
            simp only [List.range, List.range.loop, opsOf, List.getElem?_cons_succ, List.getElem?_cons_zero, List.drop_succ_cons, List.drop_zero]
            refine wpL_val ?v15 rfl (by rfl) (fun wq hq => ?y15) ?z15
            case y15 => go_simp; exact known_any _ (Hk.out.below (zB.trans (hq.mono (by have := zB.size; omega))) (by omega))
            try simp only [Act.put, List.setIfInBounds_toArray, List.set_cons_zero, List.set_cons_succ]
            refine wpL_val ?v16 rfl (by rfl) (fun wq hq => ?y16) ?z16
            case y16 => go_simp; with_reducible rfl
            try simp only [Act.put, List.setIfInBounds_toArray, List.set_cons_zero, List.set_cons_succ]
            refine wpL_val ?v17 rfl (by rfl) (fun wq hq => ?y17) ?z17
            case y17 => go_simp; with_reducible rfl
            try simp only [Act.put, List.setIfInBounds_toArray, List.set_cons_zero, List.set_cons_succ]
            refine wpL_val ?v18 rfl (by rfl) (fun wq hq => ?y18) ?z18
            case y18 => go_simp; with_reducible rfl
            try simp only [Act.put, List.setIfInBounds_toArray, List.set_cons_zero, List.set_cons_succ]
            refine wpL_val ?v19 rfl (by rfl) (fun wq hq => ?y19) ?z19
            case y19 => go_simp; with_reducible rfl
            try simp only [Act.put, List.setIfInBounds_toArray, List.set_cons_zero, List.set_cons_succ]
            refine wpL_val ?v20 rfl (by rfl) (fun wq hq => ?y20) ?z20
            case y20 => go_simp; with_reducible rfl
            try simp only [Act.put, List.setIfInBounds_toArray, List.set_cons_zero, List.set_cons_succ]
            refine wpL_val ?v21 rfl (by rfl) (fun wq hq => ?y21) ?z21
            case y21 => go_simp; with_reducible rfl
            try simp only [Act.put, List.setIfInBounds_toArray, List.set_cons_zero, List.set_cons_succ]
            refine wpL_val (.agg lr.toArray) rfl (by rfl) (fun wq hq => quiet_ld 24 _ rfl _ _ rfl lr _ (range_below zR1 hq zl1) hu.out rfl HRL.out) ?_
            try simp only [Act.put, List.setIfInBounds_toArray, List.set_cons_zero, List.set_cons_succ]
            refine wpL_val (.agg lr.toArray) rfl (by rfl) (fun wq hq => quiet_ld 23 _ rfl _ _ rfl lr _ (range_below zR2 hq zl2) huR.out rfl HRLR.out) ?_
            try simp only [Act.put, List.setIfInBounds_toArray, List.set_cons_zero, List.set_cons_succ]
            refine wpL_val ?v24 rfl (by rfl) (fun wq hq => ?y24) ?z24
            case y24 => go_simp; rw [eqlR r r hrl hrl _ _ HRT2.out HRT2.out, decide_eq_true rfl]; go_simp; with_reducible rfl
            try simp only [Act.put, List.setIfInBounds_toArray, List.set_cons_zero, List.set_cons_succ]
            refine wpL_val ?v25 rfl (by rfl) (fun wq hq => ?y25) ?z25
            case y25 => go_simp; with_reducible rfl
            try simp only [Act.put, List.setIfInBounds_toArray, List.set_cons_zero, List.set_cons_succ]
            refine wpL_nil ?_
            intro wt hwt
            go_wp2_with fail
            go_ret
            exact ⟨rfl, by (try rw [hAe]); exact zB.trans (hwt.mono (by have := zB.size; omega))⟩
    · rw [if_pos (by rfl)]
      go_simp
      refine hK.out _ _ (hH0.alloc hH0.size (.cells (List.replicate 32 (V8 0)).toArray 24)) (fun hH16 => ?_)
      clear hK K
      try simp only [Act.put, List.getElem_toArray, List.getElem_cons_succ, List.getElem_cons_zero, List.setIfInBounds_toArray, List.set_cons_zero, List.set_cons_succ]
      have hA16 := Arr.new W0 24 (List.replicate 32 (V8 0))
      have hg : w0.heap.size ≤ W0.heap.size := hH0.size
      change wpAnyH _ _ _ _ _ _ _ _ (W0.alloc (.cells (List.replicate 32 (V8 0)).toArray 24))
      clear hH0
      change Below w0.heap.size w0 (W0.alloc (.cells (List.replicate 32 (V8 0)).toArray 24)) at hH16
      generalize W0.alloc (.cells (List.replicate 32 (V8 0)).toArray 24) = W16 at *
      generalize W0.heap.size = g at *
      refine wpAnyH_ready (rs := [8]) (by kernel_rfl) (by simp) ?_
      refine AllReadyH.cons rfl (fun K hK => ?_) AllReadyH.nil
      · rw [if_pos (by rfl)]
        go_simp
        refine (hown _ (HD.out.below (hW0.trans (hH16.mono (by omega))) (by omega))).mono ?_
        rintro e W17 ⟨⟨v4, rfl, hV17⟩, hb17⟩
        refine hK.out _ _ (hH16.trans (hb17.mono hH16.size)) (fun hH17 => ?_)
        clear hK K
        try simp only [Act.put, List.getElem_toArray, List.getElem_cons_succ, List.getElem_cons_zero, List.setIfInBounds_toArray, List.set_cons_zero, List.set_cons_succ]
        have hA17 := hA16.below hb17 hA16.lt
        clear hA16
        clear hb17 hH16
        refine wpAnyH_ready (rs := [9]) (by kernel_rfl) (by simp) ?_
        refine AllReadyH.cons rfl (fun K hK => ?_) AllReadyH.nil
        · rw [if_pos (by rfl)]
          go_simp
          refine (hfrom _ _ hV17 (Hk.out.below (hW0.trans (hH17.mono (by omega))) (by omega))).mono ?_
          rintro e W18 ⟨rfl, hb18⟩
          rw [HRT.out]
          refine hK.out _ _ (hH17.trans (hb18.mono hH17.size)) (fun hH18 => ?_)
          clear hK K
          try simp only [Act.put, List.getElem_toArray, List.getElem_cons_succ, List.getElem_cons_zero, List.setIfInBounds_toArray, List.set_cons_zero, List.set_cons_succ]
          have hA18 := hA17.below hb18 hA17.lt
          clear hA17
          clear hb18 hH17 hV17
          refine wpAnyH_take (i := 10) (v := ?tv19) rfl (by kernel_rfl) (by kernel_rfl) (by kernel_rfl) (fun _ _ _ h => h) (Or.inl ⟨by rfl, ?ty19⟩) hH18 ?tr19
          case ty19 => intro wq hq; go_simp; with_reducible rfl
          try simp only [Act.put, List.getElem_toArray, List.getElem_cons_succ, List.getElem_cons_zero, List.setIfInBounds_toArray, List.set_cons_zero, List.set_cons_succ]
          refine wpAnyH_take (i := 11) (v := ?tv20) rfl (by kernel_rfl) (by kernel_rfl) (by kernel_rfl) (fun _ _ _ h => h) (Or.inl ⟨by rfl, ?ty20⟩) hH18 ?tr20
          case ty20 => intro wq hq; go_simp; with_reducible rfl
          try simp only [Act.put, List.getElem_toArray, List.getElem_cons_succ, List.getElem_cons_zero, List.setIfInBounds_toArray, List.set_cons_zero, List.set_cons_succ]
          refine wpAnyH_take (i := 12) (v := ?tv21) rfl (by kernel_rfl) (by kernel_rfl) (by kernel_rfl) (fun _ _ _ h => h) (Or.inl ⟨by rfl, ?ty21⟩) hH18 ?tr21
          case ty21 => intro wq hq; go_simp; with_reducible rfl
          try simp only [Act.put, List.getElem_toArray, List.getElem_cons_succ, List.getElem_cons_zero, List.setIfInBounds_toArray, List.set_cons_zero, List.set_cons_succ]
          refine wpAnyH_ready (rs := [14]) (by kernel_rfl) (by simp) ?_
          refine AllReadyH.cons rfl (fun K hK => ?_) AllReadyH.nil
          · rw [if_pos (by rfl)]
            refine wp_store_row 24 (.tmp 3) (.tmp 23) rfl g lr.toArray rfl rfl 24 _ hA18 HRI.out HRS.out HRO.out ?_
            refine hK.out _ _ (below_setRow hH18 hg _) (fun hH22 => ?_)
            clear hK K
            try simp only [Act.put, List.getElem_toArray, List.getElem_cons_succ, List.getElem_cons_zero, List.setIfInBounds_toArray, List.set_cons_zero, List.set_cons_succ]
            have hL22 := hA18.setRow lr.toArray
            change Arr (W18.setRow g lr.toArray) g 24 lr at hL22
            change wpAnyH _ _ _ _ _ _ _ _ (W18.setRow g lr.toArray)
            change Below w0.heap.size w0 (W18.setRow g lr.toArray) at hH22
            clear hA18 hH18
            generalize W18.setRow g lr.toArray = W22 at *
            refine wpAnyH_take (i := 15) (v := ?tv23) rfl (by kernel_rfl) (by kernel_rfl) (by kernel_rfl) (fun _ _ _ h => h) (Or.inl ⟨by rfl, ?ty23⟩) hH22 ?tr23
            case ty23 => intro wq hq; go_simp; with_reducible rfl
            try simp only [Act.put, List.getElem_toArray, List.getElem_cons_succ, List.getElem_cons_zero, List.setIfInBounds_toArray, List.set_cons_zero, List.set_cons_succ]
            refine wpAnyH_done (by kernel_rfl) ?_ _
            simp only [List.getElem_toArray, List.getElem_cons_succ, List.getElem_cons_zero, Exit.then, Act.put, List.setIfInBounds_toArray, List.set_cons_zero, List.set_cons_succ]
            go_at_K
            have hX := hH22; have hXL := hL22
            clear hH22 hL22
            generalize W22 = wx at *
            have xB := hW0.trans (hX.mono (by omega))
            have xR := range_below hr0 hX hAl
            have x32 := (hX.cell (p := ⟨A, 32, none⟩) hAl).trans hc32
            have x33 := (hX.cell (p := ⟨A, 33, none⟩) hAl).trans hc33
            have x34 := (hX.cell (p := ⟨A, 34, none⟩) hAl).trans hc34
            have xV := HD.out.below xB (by omega)
            have XR := Lib.hid xR
            clear hX xR
            go_wp2_with ((with_reducible refine at_ld 23 (.tmp 26) ?_); refine wpList_load_mid rfl 23 (.tmp 26) rfl A 0 rfl la _ XR.out huR.out rfl HLI.out ?_)
            refine (hfromR _ xV).mono ?_
            rintro e wy ⟨rfl, hby⟩
            rw [HRT.out]
            have yB := xB.trans (hby.mono (by have := xB.size; omega))
            have yL := hXL.below hby hXL.lt
            clear hby xB hXL xV x32 x33 x34 XR
            have h6 := Lib.hid (one_var wy 23 lr)
            go_upto_region 5 with ((with_reducible refine at_st 23 (.tmp 5) (.tmp 35) ?_); refine wpList_store_row rfl 23 (.tmp 5) (.tmp 35) rfl wy.heap.size lr.toArray rfl rfl 23 _ h6.out.1 HRIR.out HRS.out HRO.out ?_)
            have h7 := h6.out.2
            clear h6
            change Code.wp _ _ _ _ ((wy.alloc (Z32 23)).setRow wy.heap.size lr.toArray)
            generalize (wy.alloc (Z32 23)).setRow wy.heap.size lr.toArray = wz at *
            have zL := yL.below h7.2.1 yL.lt
            have zM := h7.1
            have zB := yB.trans (h7.2.1.mono (by have := yB.size; omega))
            generalize wy.heap.size = gy at *
            clear yL yB h7
            have zR1 := zL.range; have zR2 := zM.range
            have zl1 := zL.lt; have zl2 := zM.lt
            refine wp_region_listed 11 [] (Below wz.heap.size wz) (by decide) (Stable.below wz) (Below.refl _ _) ?_
            simp only [List.range, List.range.loop, opsOf, List.getElem?_cons_succ, List.getElem?_cons_zero, List.drop_succ_cons, List.drop_zero]
            refine wpL_val ?v28 rfl (by rfl) (fun wq hq => ?y28) ?z28
            case y28 => go_simp; exact known_any _ (Hk.out.below (zB.trans (hq.mono (by have := zB.size; omega))) (by omega))
            try simp only [Act.put, List.setIfInBounds_toArray, List.set_cons_zero, List.set_cons_succ]
            refine wpL_val ?v29 rfl (by rfl) (fun wq hq => ?y29) ?z29
            case y29 => go_simp; with_reducible rfl
            try simp only [Act.put, List.setIfInBounds_toArray, List.set_cons_zero, List.set_cons_succ]
            refine wpL_val ?v30 rfl (by rfl) (fun wq hq => ?y30) ?z30
            case y30 => go_simp; with_reducible rfl
            try simp only [Act.put, List.setIfInBounds_toArray, List.set_cons_zero, List.set_cons_succ]
            refine wpL_val ?v31 rfl (by rfl) (fun wq hq => ?y31) ?z31
            case y31 => go_simp; with_reducible rfl
            try simp only [Act.put, List.setIfInBounds_toArray, List.set_cons_zero, List.set_cons_succ]
            refine wpL_val ?v32 rfl (by rfl) (fun wq hq => ?y32) ?z32
            case y32 => go_simp; with_reducible rfl
            try simp only [Act.put, List.setIfInBounds_toArray, List.set_cons_zero, List.set_cons_succ]
            refine wpL_val ?v33 rfl (by rfl) (fun wq hq => ?y33) ?z33
            case y33 => go_simp; with_reducible rfl
            try simp only [Act.put, List.setIfInBounds_toArray, List.set_cons_zero, List.set_cons_succ]
            refine wpL_val ?v34 rfl (by rfl) (fun wq hq => ?y34) ?z34
            case y34 => go_simp; with_reducible rfl
            try simp only [Act.put, List.setIfInBounds_toArray, List.set_cons_zero, List.set_cons_succ]
            refine wpL_val (.agg lr.toArray) rfl (by rfl) (fun wq hq => quiet_ld 24 _ rfl _ _ rfl lr _ (range_below zR1 hq zl1) hu.out rfl HRL.out) ?_
            try simp only [Act.put, List.setIfInBounds_toArray, List.set_cons_zero, List.set_cons_succ]
            refine wpL_val (.agg lr.toArray) rfl (by rfl) (fun wq hq => quiet_ld 23 _ rfl _ _ rfl lr _ (range_below zR2 hq zl2) huR.out rfl HRLR.out) ?_
            try simp only [Act.put, List.setIfInBounds_toArray, List.set_cons_zero, List.set_cons_succ]
            refine wpL_val ?v37 rfl (by rfl) (fun wq hq => ?y37) ?z37
            case y37 => go_simp; rw [eqlR r r hrl hrl _ _ HRT2.out HRT2.out, decide_eq_true rfl]; go_simp; with_reducible rfl
            try simp only [Act.put, List.setIfInBounds_toArray, List.set_cons_zero, List.set_cons_succ]
            refine wpL_val ?v38 rfl (by rfl) (fun wq hq => ?y38) ?z38
            case y38 => go_simp; with_reducible rfl
            try simp only [Act.put, List.setIfInBounds_toArray, List.set_cons_zero, List.set_cons_succ]
            refine wpL_nil ?_
            intro wt hwt
            go_wp2_with fail
            go_ret
            exact ⟨rfl, by (try rw [hAe]); exact zB.trans (hwt.mono (by have := zB.size; omega))⟩
  · have hd30 : decide ((30 : Int) < ((path.length : Nat) : Int)) = true := decide_eq_true (by omega)
    have hm30 : (30 : Int) < ((path.length : Nat) : Int) := by omega
    clear hA hao hal h30
    generalize path.length = m at *
    go_enter Tryd.func4, Tryd.ntmps4
    go_upto_region 1 with (fail)
    change Code.wp _ _ _ _ (w.alloc (.cells lc.toArray 40))
    generalize w.alloc (.cells lc.toArray 40) = w0 at *
    have hc34 := H34.out
    go_wp2_with fail
    refine (known_any _ (Hk.out.below HW0.out (Nat.le_refl _))).mono ?_
    rintro e w1 ⟨rfl, hb⟩
    go_wp2_with fail
    go_ret
    exact ⟨rfl, HW0.out.trans (hb.mono HW0.out.size)⟩
end Go.Proofs.YteehpfccegnjjaaDoor
