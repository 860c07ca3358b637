/-
  The walk of the law LogtreeExtendRaw.
-/
import Derived.Test.YteehpfccegnjjaaDoorExtS
import Derived.Test.YteehpfccegnjjaaDoorFrom
namespace Go.Proofs.YteehpfccegnjjaaDoor
open Go Go.RowKit
set_option maxRecDepth 100000 in
set_option linter.unusedSimpArgs false in
set_option maxHeartbeats 8000000 in
theorem extraw_law (leaf : List UInt8) (i n : Int) (u : Value) (path : List (List UInt8)) (w : World) (hl : leaf.length = 32) (hD : Digs w u path) (hK : KT w) :
    Calls Tryd.prog 5 #[.agg (claimL leaf i n u).toArray] w fun e w' => e = .returned (.bool true) ∧ Below w.heap.size w w' := by
  obtain ⟨la, hA, hlm, hal, hao⟩ := v8_list leaf hl
  obtain ⟨av, cv, rfl⟩ := hD.shape
  have hcl : claimL leaf i n (.slice av path.length cv) = la ++ [Value.int .i64 i, Value.int .i64 n, .slice av path.length cv] := by rw [hlm]
  rw [hcl]
  clear hcl hlm
  have HD := Lib.hid hD
  have Hk := Lib.hid hK
  clear hD hK
  have hAA := Arr.new w 40 (la ++ [Value.int .i64 i, Value.int .i64 n, .slice av path.length cv])
  have hr0 : (w.alloc (.cells (la ++ [Value.int .i64 i, Value.int .i64 n, .slice av path.length cv]).toArray 40)).rangeAt w.heap.size 0 la := fun j x hj => by
    rw [Nat.zero_add, hAA.cell j, List.getElem?_append_left (List.getElem?_eq_some_iff.1 hj).1]; exact hj
  have hc32 := hAA.cell 32; have hc33 := hAA.cell 33; have hc34 := hAA.cell 34
  rw [List.getElem?_append_right (by omega), hal] at hc32 hc33 hc34
  simp only [Nat.sub_self, List.getElem?_cons_zero, show 33 - 32 = 1 from rfl, show 34 - 32 = 2 from rfl, List.getElem?_cons_succ] at hc32 hc33 hc34
  have hlt := hAA.lt
  have hW0 := below_alloc w (.cells (la ++ [Value.int .i64 i, Value.int .i64 n, .slice av path.length cv]).toArray 40)
  clear hAA
  generalize la ++ [Value.int .i64 i, Value.int .i64 n, .slice av path.length cv] = lc at *
  have HR0 := Lib.hid hr0; have H32 := Lib.hid hc32; have H33 := Lib.hid hc33; have H34 := Lib.hid hc34; have HW0 := Lib.hid hW0; have HLT := Lib.hid hlt
  clear hr0 hc32 hc33 hc34 hW0 hlt
  have hu := Lib.hid Tryd.underlying24
  have huR := Lib.hid Tryd.underlying23
  by_cases h30 : path.length ≤ 30
  · have hown := fun w hV => own_any path (.slice av path.length cv) w (by omega) hV
    have hext := fun v w hV hK => ext_any leaf i n path v w hl h30 hV hK
    have hextR := fun w hV => extRS_any leaf i n path (.slice av path.length cv) w hl hV
    have hrl := extS_length leaf hl i n path HD.out.all
    rw [hA] at hext hextR
    generalize extS leaf i n path = rc at *
    obtain ⟨ra, rb, code⟩ := rc
    simp only at hrl hext hextR
    obtain ⟨hral, hrbl⟩ := hrl
    obtain ⟨lra, hRA, -, hlral, hlrao⟩ := v8_list ra hral
    obtain ⟨lrb, hRB, -, hlrbl, hlrbo⟩ := v8_list rb hrbl
    have HRA := Lib.hid hRA; have HRA2 := Lib.hid hRA
    have HRB := Lib.hid hRB; have HRB2 := Lib.hid hRB
    have lra_HI := Lib.hid (inf_size infD32 lra hlral); have lra_HS := Lib.hid (st_size lra hlral); have lra_HO := Lib.hid (all_oneCell_toArray hlrao)
    have lra_HIR := Lib.hid (inf_size infR32 lra hlral)
    have lra_LI := Lib.hid (show (Tryd.prog.info? 24).map (·.size) = some lra.length by rw [hlral]; exact infD32)
    have lra_LIR := Lib.hid (show (Tryd.prog.info? 23).map (·.size) = some lra.length by rw [hlral]; exact infR32)
    have lrb_HI := Lib.hid (inf_size infD32 lrb hlrbl); have lrb_HS := Lib.hid (st_size lrb hlrbl); have lrb_HO := Lib.hid (all_oneCell_toArray hlrbo)
    have lrb_HIR := Lib.hid (inf_size infR32 lrb hlrbl)
    have lrb_LI := Lib.hid (show (Tryd.prog.info? 24).map (·.size) = some lrb.length by rw [hlrbl]; exact infD32)
    have lrb_LIR := Lib.hid (show (Tryd.prog.info? 23).map (·.size) = some lrb.length by rw [hlrbl]; exact infR32)
    have HLI := Lib.hid (show (Tryd.prog.info? 23).map (·.size) = some la.length by rw [hal]; exact infR32)
    have hm30 : ¬ ((30 : Int) < ((path.length : Nat) : Int)) := by omega
    have hd30 : decide ((30 : Int) < ((path.length : Nat) : Int)) = false := decide_eq_false hm30
    clear hRA hRB hlral hlrbl hlrao hlrbo hA hao hal h30
    generalize path.length = m at *
    go_enter Tryd.func5, Tryd.ntmps5
    go_upto_region 1 with (fail)
    change Code.wp _ _ _ _ (w.alloc (.cells lc.toArray 40))
    generalize w.alloc (.cells lc.toArray 40) = w0 at *
    have hr0 := HR0.out; have hc32 := H32.out; have hc33 := H33.out; have hc34 := H34.out; have hW0 := HW0.out; have hAl := HLT.out
    generalize hAe : w.heap.size = A at *
    go_upto_region 3 with (fail)
    have hb1 : Below w0.heap.size w0 w0.drew := (Below.refl _ _).drew
    refine wp_region_held_drew (S := fun w' => Below w0.heap.size w0 w') (by kernel_rfl) hb1 (fun hH0 => ?_)
    generalize w0.drew = W0 at *
    refine wpAnyH_take (i := 0) (v := ?tv115) rfl (by kernel_rfl) (by kernel_rfl) (by kernel_rfl) (fun _ _ _ h => h) (Or.inl ⟨by rfl, ?ty115⟩) hH0 ?tr115
    case ty115 => intro wq hq; go_simp; with_reducible rfl
    try simp only [Act.put, List.getElem_toArray, List.getElem_cons_succ, List.getElem_cons_zero, List.setIfInBounds_toArray, List.set_cons_zero, List.set_cons_succ]
    refine wpAnyH_take (i := 1) rfl (by kernel_rfl) (by kernel_rfl) (by kernel_rfl) (fun _ _ _ h => h) (yieldsIf_load_mid (by rfl) _ _ rfl _ _ rfl la _ (fun w h => range_below hr0 h hAl) huR.out rfl HLI.out) hH0 ?_
    try simp only [Act.put, List.getElem_toArray, List.getElem_cons_succ, List.getElem_cons_zero, List.setIfInBounds_toArray, List.set_cons_zero, List.set_cons_succ]
    refine wpAnyH_take (i := 2) (v := ?tv116) rfl (by kernel_rfl) (by kernel_rfl) (by kernel_rfl) (fun _ _ _ h => h) (Or.inl ⟨by rfl, ?ty116⟩) hH0 ?tr116
    case ty116 => intro wq hq; have c32 := (hq.cell (p := ⟨A, 32, none⟩) hAl).trans hc32; have c33 := (hq.cell (p := ⟨A, 33, none⟩) hAl).trans hc33; have c34 := (hq.cell (p := ⟨A, 34, none⟩) hAl).trans hc34; go_simp; with_reducible rfl
    try simp only [Act.put, List.getElem_toArray, List.getElem_cons_succ, List.getElem_cons_zero, List.setIfInBounds_toArray, List.set_cons_zero, List.set_cons_succ]
    refine wpAnyH_take (i := 3) (v := ?tv117) rfl (by kernel_rfl) (by kernel_rfl) (by kernel_rfl) (fun _ _ _ h => h) (Or.inl ⟨by rfl, ?ty117⟩) hH0 ?tr117
    case ty117 => intro wq hq; have c32 := (hq.cell (p := ⟨A, 32, none⟩) hAl).trans hc32; have c33 := (hq.cell (p := ⟨A, 33, none⟩) hAl).trans hc33; have c34 := (hq.cell (p := ⟨A, 34, none⟩) hAl).trans hc34; go_simp; with_reducible rfl
    try simp only [Act.put, List.getElem_toArray, List.getElem_cons_succ, List.getElem_cons_zero, List.setIfInBounds_toArray, List.set_cons_zero, List.set_cons_succ]
    refine wpAnyH_take (i := 4) (v := ?tv118) rfl (by kernel_rfl) (by kernel_rfl) (by kernel_rfl) (fun _ _ _ h => h) (Or.inl ⟨by rfl, ?ty118⟩) hH0 ?tr118
    case ty118 => intro wq hq; have c32 := (hq.cell (p := ⟨A, 32, none⟩) hAl).trans hc32; have c33 := (hq.cell (p := ⟨A, 33, none⟩) hAl).trans hc33; have c34 := (hq.cell (p := ⟨A, 34, none⟩) hAl).trans hc34; go_simp; with_reducible rfl
    try simp only [Act.put, List.getElem_toArray, List.getElem_cons_succ, List.getElem_cons_zero, List.setIfInBounds_toArray, List.set_cons_zero, List.set_cons_succ]
    refine wpAnyH_take (i := 5) (v := ?tv119) rfl (by kernel_rfl) (by kernel_rfl) (by kernel_rfl) (fun _ _ _ h => h) (Or.inl ⟨by rfl, ?ty119⟩) hH0 ?tr119
    case ty119 => intro wq hq; have c32 := (hq.cell (p := ⟨A, 32, none⟩) hAl).trans hc32; have c33 := (hq.cell (p := ⟨A, 33, none⟩) hAl).trans hc33; have c34 := (hq.cell (p := ⟨A, 34, none⟩) hAl).trans hc34; go_simp; with_reducible rfl
    try simp only [Act.put, List.getElem_toArray, List.getElem_cons_succ, List.getElem_cons_zero, List.setIfInBounds_toArray, List.set_cons_zero, List.set_cons_succ]
    refine wpAnyH_take (i := 6) (v := ?tv120) rfl (by kernel_rfl) (by kernel_rfl) (by kernel_rfl) (fun _ _ _ h => h) (Or.inl ⟨by rfl, ?ty120⟩) hH0 ?tr120
    case ty120 => intro wq hq; have c32 := (hq.cell (p := ⟨A, 32, none⟩) hAl).trans hc32; have c33 := (hq.cell (p := ⟨A, 33, none⟩) hAl).trans hc33; have c34 := (hq.cell (p := ⟨A, 34, none⟩) hAl).trans hc34; go_simp; with_reducible rfl
    try simp only [Act.put, List.getElem_toArray, List.getElem_cons_succ, List.getElem_cons_zero, List.setIfInBounds_toArray, List.set_cons_zero, List.set_cons_succ]
    refine wpAnyH_take (i := 7) (v := ?tv121) rfl (by kernel_rfl) (by kernel_rfl) (by kernel_rfl) (fun _ _ _ h => h) (Or.inl ⟨by rfl, ?ty121⟩) hH0 ?tr121
    case ty121 => intro wq hq; have c32 := (hq.cell (p := ⟨A, 32, none⟩) hAl).trans hc32; have c33 := (hq.cell (p := ⟨A, 33, none⟩) hAl).trans hc33; have c34 := (hq.cell (p := ⟨A, 34, none⟩) hAl).trans hc34; go_simp; with_reducible rfl
    try simp only [Act.put, List.getElem_toArray, List.getElem_cons_succ, List.getElem_cons_zero, List.setIfInBounds_toArray, List.set_cons_zero, List.set_cons_succ]
    refine wpAnyH_ready (rs := [8, 14, 15]) (by kernel_rfl) (by simp) ?_
    refine AllReadyH.cons rfl (fun K hK => ?_) (AllReadyH.cons rfl (fun K hK => ?_) (AllReadyH.cons rfl (fun K hK => ?_) AllReadyH.nil))
    · rw [if_pos (by rfl)]
      go_simp
      refine (hown _ (HD.out.below (hW0.trans (hH0.mono (by omega))) (by omega))).mono ?_
      rintro e W1 ⟨⟨v4, rfl, hV1⟩, hb1⟩
      refine hK.out _ _ (hH0.trans (hb1.mono hH0.size)) (fun hH1 => ?_)
      clear hK K
      try simp only [Act.put, List.getElem_toArray, List.getElem_cons_succ, List.getElem_cons_zero, List.setIfInBounds_toArray, List.set_cons_zero, List.set_cons_succ]
      clear hb1 hH0
      refine wpAnyH_ready (rs := [9, 14, 15]) (by kernel_rfl) (by simp) ?_
      refine AllReadyH.cons rfl (fun K hK => ?_) (AllReadyH.cons rfl (fun K hK => ?_) (AllReadyH.cons rfl (fun K hK => ?_) AllReadyH.nil))
      · rw [if_pos (by rfl)]
        go_simp
        refine (hext _ _ hV1 (Hk.out.below (hW0.trans (hH1.mono (by omega))) (by omega))).mono ?_
        rintro e W2 ⟨rfl, hb2⟩
        rw [HRA.out, HRB.out]
        refine hK.out _ _ (hH1.trans (hb2.mono hH1.size)) (fun hH2 => ?_)
        clear hK K
        try simp only [Act.put, List.getElem_toArray, List.getElem_cons_succ, List.getElem_cons_zero, List.setIfInBounds_toArray, List.set_cons_zero, List.set_cons_succ]
        clear hb2 hH1 hV1
        refine wpAnyH_take (i := 10) (v := ?tv3) rfl (by kernel_rfl) (by kernel_rfl) (by kernel_rfl) (fun _ _ _ h => h) (Or.inl ⟨by rfl, ?ty3⟩) hH2 ?tr3
        case ty3 => intro wq hq; go_simp; with_reducible rfl
        try simp only [Act.put, List.getElem_toArray, List.getElem_cons_succ, List.getElem_cons_zero, List.setIfInBounds_toArray, List.set_cons_zero, List.set_cons_succ]
        refine wpAnyH_take (i := 11) (v := ?tv4) rfl (by kernel_rfl) (by kernel_rfl) (by kernel_rfl) (fun _ _ _ h => h) (Or.inl ⟨by rfl, ?ty4⟩) hH2 ?tr4
        case ty4 => intro wq hq; go_simp; with_reducible rfl
        try simp only [Act.put, List.getElem_toArray, List.getElem_cons_succ, List.getElem_cons_zero, List.setIfInBounds_toArray, List.set_cons_zero, List.set_cons_succ]
        refine wpAnyH_take (i := 12) (v := ?tv5) rfl (by kernel_rfl) (by kernel_rfl) (by kernel_rfl) (fun _ _ _ h => h) (Or.inl ⟨by rfl, ?ty5⟩) hH2 ?tr5
        case ty5 => intro wq hq; go_simp; with_reducible rfl
        try simp only [Act.put, List.getElem_toArray, List.getElem_cons_succ, List.getElem_cons_zero, List.setIfInBounds_toArray, List.set_cons_zero, List.set_cons_succ]
        refine wpAnyH_take (i := 13) (v := ?tv6) rfl (by kernel_rfl) (by kernel_rfl) (by kernel_rfl) (fun _ _ _ h => h) (Or.inl ⟨by rfl, ?ty6⟩) hH2 ?tr6
        case ty6 => intro wq hq; go_simp; with_reducible rfl
        try simp only [Act.put, List.getElem_toArray, List.getElem_cons_succ, List.getElem_cons_zero, List.setIfInBounds_toArray, List.set_cons_zero, List.set_cons_succ]
        refine wpAnyH_ready (rs := [14, 15]) (by kernel_rfl) (by simp) ?_
        refine AllReadyH.cons rfl (fun K hK => ?_) (AllReadyH.cons rfl (fun K hK => ?_) AllReadyH.nil)
        · rw [if_pos (by rfl)]
          go_simp
          refine hK.out _ _ (hH2.alloc hH2.size (.cells (List.replicate 32 (V8 0)).toArray 24)) (fun hH7 => ?_)
          clear hK K
          try simp only [Act.put, List.getElem_toArray, List.getElem_cons_succ, List.getElem_cons_zero, List.setIfInBounds_toArray, List.set_cons_zero, List.set_cons_succ]
          have hA7 := Arr.new W2 24 (List.replicate 32 (V8 0))
          have hga : w0.heap.size ≤ W2.heap.size := hH2.size
          change wpAnyH _ _ _ _ _ _ _ _ (W2.alloc (.cells (List.replicate 32 (V8 0)).toArray 24))
          clear hH2
          change Below w0.heap.size w0 (W2.alloc (.cells (List.replicate 32 (V8 0)).toArray 24)) at hH7
          generalize W2.alloc (.cells (List.replicate 32 (V8 0)).toArray 24) = W7 at *
          generalize W2.heap.size = ga at *
          refine wpAnyH_ready (rs := [15]) (by kernel_rfl) (by simp) ?_
          refine AllReadyH.cons rfl (fun K hK => ?_) AllReadyH.nil
          · rw [if_pos (by rfl)]
            go_simp
            refine hK.out _ _ (hH7.alloc hH7.size (.cells (List.replicate 32 (V8 0)).toArray 24)) (fun hH8 => ?_)
            clear hK K
            try simp only [Act.put, List.getElem_toArray, List.getElem_cons_succ, List.getElem_cons_zero, List.setIfInBounds_toArray, List.set_cons_zero, List.set_cons_succ]
            have hB8 := Arr.new W7 24 (List.replicate 32 (V8 0))
            have hne := hA7.lt
            have hA8 := hA7.alloc (.cells (List.replicate 32 (V8 0)).toArray 24)
            clear hA7
            have hgb : w0.heap.size ≤ W7.heap.size := hH7.size
            change wpAnyH _ _ _ _ _ _ _ _ (W7.alloc (.cells (List.replicate 32 (V8 0)).toArray 24))
            clear hH7
            change Below w0.heap.size w0 (W7.alloc (.cells (List.replicate 32 (V8 0)).toArray 24)) at hH8
            generalize W7.alloc (.cells (List.replicate 32 (V8 0)).toArray 24) = W8 at *
            generalize W7.heap.size = gb at *
            refine wpAnyH_ready (rs := [16]) (by kernel_rfl) (by simp) ?_
            refine AllReadyH.cons rfl (fun K hK => ?_) AllReadyH.nil
            · rw [if_pos (by rfl)]
              refine wp_store_row 24 (.tmp 3) (.tmp 25) rfl ga lra.toArray rfl rfl 24 _ hA8 lra_HI.out lra_HS.out lra_HO.out ?_
              refine hK.out _ _ (below_setRow hH8 hga _) (fun hH9 => ?_)
              clear hK K
              try simp only [Act.put, List.getElem_toArray, List.getElem_cons_succ, List.getElem_cons_zero, List.setIfInBounds_toArray, List.set_cons_zero, List.set_cons_succ]
              have hA9 := hA8.setRow lra.toArray
              have hB9 := hB8.setRow_other ga lra.toArray (by omega)
              change Arr (W8.setRow ga lra.toArray) ga 24 lra at hA9
              change wpAnyH _ _ _ _ _ _ _ _ (W8.setRow ga lra.toArray)
              change Below w0.heap.size w0 (W8.setRow ga lra.toArray) at hH9
              clear hA8 hB8 hH8
              generalize W8.setRow ga lra.toArray = W9 at *
              refine wpAnyH_ready (rs := [17]) (by kernel_rfl) (by simp) ?_
              refine AllReadyH.cons rfl (fun K hK => ?_) AllReadyH.nil
              · rw [if_pos (by rfl)]
                refine wp_store_row 24 (.tmp 4) (.tmp 26) rfl gb lrb.toArray rfl rfl 24 _ hB9 lrb_HI.out lrb_HS.out lrb_HO.out ?_
                refine hK.out _ _ (below_setRow hH9 hgb _) (fun hH10 => ?_)
                clear hK K
                try simp only [Act.put, List.getElem_toArray, List.getElem_cons_succ, List.getElem_cons_zero, List.setIfInBounds_toArray, List.set_cons_zero, List.set_cons_succ]
                have hB10 := hB9.setRow lrb.toArray
                have hA10 := hA9.setRow_other gb lrb.toArray (by omega)
                change Arr (W9.setRow gb lrb.toArray) gb 24 lrb at hB10
                change wpAnyH _ _ _ _ _ _ _ _ (W9.setRow gb lrb.toArray)
                change Below w0.heap.size w0 (W9.setRow gb lrb.toArray) at hH10
                clear hA9 hB9 hH9
                generalize W9.setRow gb lrb.toArray = W10 at *
                refine wpAnyH_take (i := 18) (v := ?tv11) rfl (by kernel_rfl) (by kernel_rfl) (by kernel_rfl) (fun _ _ _ h => h) (Or.inl ⟨by rfl, ?ty11⟩) hH10 ?tr11
                case ty11 => intro wq hq; go_simp; with_reducible rfl
                try simp only [Act.put, List.getElem_toArray, List.getElem_cons_succ, List.getElem_cons_zero, List.setIfInBounds_toArray, List.set_cons_zero, List.set_cons_succ]
                refine wpAnyH_done (by kernel_rfl) ?_ _
                simp only [List.getElem_toArray, List.getElem_cons_succ, List.getElem_cons_zero, Exit.then, Act.put, List.setIfInBounds_toArray, List.set_cons_zero, List.set_cons_succ]
                go_at_K
                have hX := hH10; have hXA := hA10; have hXB := hB10
                clear hH10 hA10 hB10
                generalize W10 = wx at *
                have xB := hW0.trans (hX.mono (by omega))
                have xR := range_below hr0 hX hAl
                have x32 := (hX.cell (p := ⟨A, 32, none⟩) hAl).trans hc32
                have x33 := (hX.cell (p := ⟨A, 33, none⟩) hAl).trans hc33
                have x34 := (hX.cell (p := ⟨A, 34, none⟩) hAl).trans hc34
                have xV := HD.out.below xB (by omega)
                have XR := Lib.hid xR
                clear hX xR
                go_wp2_with ((with_reducible refine at_ld 23 (.tmp 29) ?_); refine wpList_load_mid rfl 23 (.tmp 29) rfl A 0 rfl la _ XR.out huR.out rfl HLI.out ?_)
                refine (hextR _ xV).mono ?_
                rintro e wy ⟨rfl, hby⟩
                rw [HRA.out, HRB.out]
                have yB := xB.trans (hby.mono (by have := xB.size; omega))
                have yL := hXA.below hby hXA.lt
                have yM := hXB.below hby hXB.lt
                clear hby xB hXA hXB xV x32 x33 x34 XR
                have h6 := Lib.hid (two_vars wy 23 lra lrb)
                go_upto_region 5 with (first | ((with_reducible refine at_st 23 (.tmp 6) (.tmp 38) ?_); refine wpList_store_row rfl 23 (.tmp 6) (.tmp 38) rfl wy.heap.size lra.toArray rfl rfl 23 _ h6.out.1 lra_HIR.out lra_HS.out lra_HO.out ?_) | ((with_reducible refine at_st 23 (.tmp 7) (.tmp 39) ?_); refine wpList_store_row rfl 23 (.tmp 7) (.tmp 39) rfl (wy.heap.size + 1) lrb.toArray rfl rfl 23 _ h6.out.2.1 lrb_HIR.out lrb_HS.out lrb_HO.out ?_))
                have h7 := h6.out.2.2
                clear h6
                change Code.wp _ _ _ _ ((((wy.alloc (Z32 23)).alloc (Z32 23)).setRow wy.heap.size lra.toArray).setRow (wy.heap.size + 1) lrb.toArray)
                generalize ((((wy.alloc (Z32 23)).alloc (Z32 23)).setRow wy.heap.size lra.toArray).setRow (wy.heap.size + 1) lrb.toArray) = wz at *
                have zL := yL.below h7.2.2.1 yL.lt
                have zM := yM.below h7.2.2.1 yM.lt
                have zP := h7.1
                have zQ := h7.2.1
                have zB := yB.trans (h7.2.2.1.mono (by have := yB.size; omega))
                generalize wy.heap.size = gy at *
                clear yL yM yB h7
                have zR1 := zL.range; have zR2 := zM.range; have zR3 := zP.range; have zR4 := zQ.range
                have zl1 := zL.lt; have zl2 := zM.lt; have zl3 := zP.lt; have zl4 := zQ.lt
                refine wp_region_listed 16 [] (Below wz.heap.size wz) (by decide) (Stable.below wz) (Below.refl _ _) ?_
                simp only [List.range, List.range.loop, opsOf, List.getElem?_cons_succ, List.getElem?_cons_zero, List.drop_succ_cons, List.drop_zero]
                refine wpL_val ?v2 rfl (by rfl) (fun wq hq => ?y2) ?z2
                case y2 => go_simp; exact known_any _ (Hk.out.below (zB.trans (hq.mono (by have := zB.size; omega))) (by omega))
                try simp only [Act.put, List.setIfInBounds_toArray, List.set_cons_zero, List.set_cons_succ]
                refine wpL_val ?v3 rfl (by rfl) (fun wq hq => ?y3) ?z3
                case y3 => go_simp; with_reducible rfl
                try simp only [Act.put, List.setIfInBounds_toArray, List.set_cons_zero, List.set_cons_succ]
                refine wpL_val ?v4 rfl (by rfl) (fun wq hq => ?y4) ?z4
                case y4 => go_simp; with_reducible rfl
                try simp only [Act.put, List.setIfInBounds_toArray, List.set_cons_zero, List.set_cons_succ]
                refine wpL_val ?v5 rfl (by rfl) (fun wq hq => ?y5) ?z5
                case y5 => go_simp; with_reducible rfl
                try simp only [Act.put, List.setIfInBounds_toArray, List.set_cons_zero, List.set_cons_succ]
                refine wpL_val ?v6 rfl (by rfl) (fun wq hq => ?y6) ?z6
                case y6 => go_simp; with_reducible rfl
                try simp only [Act.put, List.setIfInBounds_toArray, List.set_cons_zero, List.set_cons_succ]
                refine wpL_val ?v7 rfl (by rfl) (fun wq hq => ?y7) ?z7
                case y7 => go_simp; with_reducible rfl
                try simp only [Act.put, List.setIfInBounds_toArray, List.set_cons_zero, List.set_cons_succ]
                refine wpL_val ?v8 rfl (by rfl) (fun wq hq => ?y8) ?z8
                case y8 => go_simp; with_reducible rfl
                try simp only [Act.put, List.setIfInBounds_toArray, List.set_cons_zero, List.set_cons_succ]
                refine wpL_val (.agg lra.toArray) rfl (by rfl) (fun wq hq => quiet_ld 24 _ rfl _ _ rfl lra _ (range_below zR1 hq zl1) hu.out rfl lra_LI.out) ?_
                try simp only [Act.put, List.setIfInBounds_toArray, List.set_cons_zero, List.set_cons_succ]
                refine wpL_val (.agg lra.toArray) rfl (by rfl) (fun wq hq => quiet_ld 23 _ rfl _ _ rfl lra _ (range_below zR3 hq zl3) huR.out rfl lra_LIR.out) ?_
                try simp only [Act.put, List.setIfInBounds_toArray, List.set_cons_zero, List.set_cons_succ]
                refine wpL_val ?v11 rfl (by rfl) (fun wq hq => ?y11) ?z11
                case y11 => go_simp; rw [eqlR ra ra hral hral _ _ HRA2.out HRA2.out, decide_eq_true rfl]; go_simp; with_reducible rfl
                try simp only [Act.put, List.setIfInBounds_toArray, List.set_cons_zero, List.set_cons_succ]
                refine wpL_val ?v12 rfl (by rfl) (fun wq hq => ?y12) ?z12
                case y12 => go_simp; with_reducible rfl
                try simp only [Act.put, List.setIfInBounds_toArray, List.set_cons_zero, List.set_cons_succ]
                refine wpL_val ?v13 rfl (by rfl) (fun wq hq => ?y13) ?z13
                case y13 => go_simp; with_reducible rfl
                try simp only [Act.put, List.setIfInBounds_toArray, List.set_cons_zero, List.set_cons_succ]
                refine wpL_val (.agg lrb.toArray) rfl (by rfl) (fun wq hq => quiet_ld 24 _ rfl _ _ rfl lrb _ (range_below zR2 hq zl2) hu.out rfl lrb_LI.out) ?_
                try simp only [Act.put, List.setIfInBounds_toArray, List.set_cons_zero, List.set_cons_succ]
                refine wpL_val (.agg lrb.toArray) rfl (by rfl) (fun wq hq => quiet_ld 23 _ rfl _ _ rfl lrb _ (range_below zR4 hq zl4) huR.out rfl lrb_LIR.out) ?_
                try simp only [Act.put, List.setIfInBounds_toArray, List.set_cons_zero, List.set_cons_succ]
                refine wpL_val ?v16 rfl (by rfl) (fun wq hq => ?y16) ?z16
                case y16 => go_simp; rw [eqlR rb rb hrbl hrbl _ _ HRB2.out HRB2.out, decide_eq_true rfl]; go_simp; with_reducible rfl
                try simp only [Act.put, List.setIfInBounds_toArray, List.set_cons_zero, List.set_cons_succ]
                refine wpL_val ?v17 rfl (by rfl) (fun wq hq => ?y17) ?z17
                case y17 => go_simp; with_reducible rfl
                try simp only [Act.put, List.setIfInBounds_toArray, List.set_cons_zero, List.set_cons_succ]
                refine wpL_nil ?_
                intro wt hwt
                go_wp2_with fail
                go_ret
                exact ⟨rfl, by (try rw [hAe]); exact zB.trans (hwt.mono (by have := zB.size; omega))⟩
        · rw [if_pos (by rfl)]
          go_simp
          refine hK.out _ _ (hH2.alloc hH2.size (.cells (List.replicate 32 (V8 0)).toArray 24)) (fun hH12 => ?_)
          clear hK K
          try simp only [Act.put, List.getElem_toArray, List.getElem_cons_succ, List.getElem_cons_zero, List.setIfInBounds_toArray, List.set_cons_zero, List.set_cons_succ]
          have hB12 := Arr.new W2 24 (List.replicate 32 (V8 0))
          have hgb : w0.heap.size ≤ W2.heap.size := hH2.size
          change wpAnyH _ _ _ _ _ _ _ _ (W2.alloc (.cells (List.replicate 32 (V8 0)).toArray 24))
          clear hH2
          change Below w0.heap.size w0 (W2.alloc (.cells (List.replicate 32 (V8 0)).toArray 24)) at hH12
          generalize W2.alloc (.cells (List.replicate 32 (V8 0)).toArray 24) = W12 at *
          generalize W2.heap.size = gb at *
          refine wpAnyH_ready (rs := [14]) (by kernel_rfl) (by simp) ?_
          refine AllReadyH.cons rfl (fun K hK => ?_) AllReadyH.nil
          · rw [if_pos (by rfl)]
            go_simp
            refine hK.out _ _ (hH12.alloc hH12.size (.cells (List.replicate 32 (V8 0)).toArray 24)) (fun hH13 => ?_)
            clear hK K
            try simp only [Act.put, List.getElem_toArray, List.getElem_cons_succ, List.getElem_cons_zero, List.setIfInBounds_toArray, List.set_cons_zero, List.set_cons_succ]
            have hA13 := Arr.new W12 24 (List.replicate 32 (V8 0))
            have hne := hB12.lt
            have hB13 := hB12.alloc (.cells (List.replicate 32 (V8 0)).toArray 24)
            clear hB12
            have hga : w0.heap.size ≤ W12.heap.size := hH12.size
            change wpAnyH _ _ _ _ _ _ _ _ (W12.alloc (.cells (List.replicate 32 (V8 0)).toArray 24))
            clear hH12
            change Below w0.heap.size w0 (W12.alloc (.cells (List.replicate 32 (V8 0)).toArray 24)) at hH13
            generalize W12.alloc (.cells (List.replicate 32 (V8 0)).toArray 24) = W13 at *
            generalize W12.heap.size = ga at *
            refine wpAnyH_ready (rs := [16]) (by kernel_rfl) (by simp) ?_
            refine AllReadyH.cons rfl (fun K hK => ?_) AllReadyH.nil
            · rw [if_pos (by rfl)]
              refine wp_store_row 24 (.tmp 3) (.tmp 25) rfl ga lra.toArray rfl rfl 24 _ hA13 lra_HI.out lra_HS.out lra_HO.out ?_
              refine hK.out _ _ (below_setRow hH13 hga _) (fun hH14 => ?_)
              clear hK K
              try simp only [Act.put, List.getElem_toArray, List.getElem_cons_succ, List.getElem_cons_zero, List.setIfInBounds_toArray, List.set_cons_zero, List.set_cons_succ]
              have hA14 := hA13.setRow lra.toArray
              have hB14 := hB13.setRow_other ga lra.toArray (by omega)
              change Arr (W13.setRow ga lra.toArray) ga 24 lra at hA14
              change wpAnyH _ _ _ _ _ _ _ _ (W13.setRow ga lra.toArray)
              change Below w0.heap.size w0 (W13.setRow ga lra.toArray) at hH14
              clear hA13 hB13 hH13
              generalize W13.setRow ga lra.toArray = W14 at *
              refine wpAnyH_ready (rs := [17]) (by kernel_rfl) (by simp) ?_
              refine AllReadyH.cons rfl (fun K hK => ?_) AllReadyH.nil
              · rw [if_pos (by rfl)]
                refine wp_store_row 24 (.tmp 4) (.tmp 26) rfl gb lrb.toArray rfl rfl 24 _ hB14 lrb_HI.out lrb_HS.out lrb_HO.out ?_
                refine hK.out _ _ (below_setRow hH14 hgb _) (fun hH15 => ?_)
                clear hK K
                try simp only [Act.put, List.getElem_toArray, List.getElem_cons_succ, List.getElem_cons_zero, List.setIfInBounds_toArray, List.set_cons_zero, List.set_cons_succ]
                have hB15 := hB14.setRow lrb.toArray
                have hA15 := hA14.setRow_other gb lrb.toArray (by omega)
                change Arr (W14.setRow gb lrb.toArray) gb 24 lrb at hB15
                change wpAnyH _ _ _ _ _ _ _ _ (W14.setRow gb lrb.toArray)
                change Below w0.heap.size w0 (W14.setRow gb lrb.toArray) at hH15
                clear hA14 hB14 hH14
                generalize W14.setRow gb lrb.toArray = W15 at *
                refine wpAnyH_take (i := 18) (v := ?tv16) rfl (by kernel_rfl) (by kernel_rfl) (by kernel_rfl) (fun _ _ _ h => h) (Or.inl ⟨by rfl, ?ty16⟩) hH15 ?tr16
                case ty16 => intro wq hq; go_simp; with_reducible rfl
                try simp only [Act.put, List.getElem_toArray, List.getElem_cons_succ, List.getElem_cons_zero, List.setIfInBounds_toArray, List.set_cons_zero, List.set_cons_succ]
                refine wpAnyH_done (by kernel_rfl) ?_ _
                simp only [List.getElem_toArray, List.getElem_cons_succ, List.getElem_cons_zero, Exit.then, Act.put, List.setIfInBounds_toArray, List.set_cons_zero, List.set_cons_succ]
                go_at_K
                have hX := hH15; have hXA := hA15; have hXB := hB15
                clear hH15 hA15 hB15
                generalize W15 = wx at *
                have xB := hW0.trans (hX.mono (by omega))
                have xR := range_below hr0 hX hAl
                have x32 := (hX.cell (p := ⟨A, 32, none⟩) hAl).trans hc32
                have x33 := (hX.cell (p := ⟨A, 33, none⟩) hAl).trans hc33
                have x34 := (hX.cell (p := ⟨A, 34, none⟩) hAl).trans hc34
                have xV := HD.out.below xB (by omega)
                have XR := Lib.hid xR
                clear hX xR
                go_wp2_with ((with_reducible refine at_ld 23 (.tmp 29) ?_); refine wpList_load_mid rfl 23 (.tmp 29) rfl A 0 rfl la _ XR.out huR.out rfl HLI.out ?_)
                refine (hextR _ xV).mono ?_
                rintro e wy ⟨rfl, hby⟩
                rw [HRA.out, HRB.out]
                have yB := xB.trans (hby.mono (by have := xB.size; omega))
                have yL := hXA.below hby hXA.lt
                have yM := hXB.below hby hXB.lt
                clear hby xB hXA hXB xV x32 x33 x34 XR
                have h6 := Lib.hid (two_vars wy 23 lra lrb)
                go_upto_region 5 with (first | ((with_reducible refine at_st 23 (.tmp 6) (.tmp 38) ?_); refine wpList_store_row rfl 23 (.tmp 6) (.tmp 38) rfl wy.heap.size lra.toArray rfl rfl 23 _ h6.out.1 lra_HIR.out lra_HS.out lra_HO.out ?_) | ((with_reducible refine at_st 23 (.tmp 7) (.tmp 39) ?_); refine wpList_store_row rfl 23 (.tmp 7) (.tmp 39) rfl (wy.heap.size + 1) lrb.toArray rfl rfl 23 _ h6.out.2.1 lrb_HIR.out lrb_HS.out lrb_HO.out ?_))
                have h7 := h6.out.2.2
                clear h6
                change Code.wp _ _ _ _ ((((wy.alloc (Z32 23)).alloc (Z32 23)).setRow wy.heap.size lra.toArray).setRow (wy.heap.size + 1) lrb.toArray)
                generalize ((((wy.alloc (Z32 23)).alloc (Z32 23)).setRow wy.heap.size lra.toArray).setRow (wy.heap.size + 1) lrb.toArray) = wz at *
                have zL := yL.below h7.2.2.1 yL.lt
                have zM := yM.below h7.2.2.1 yM.lt
                have zP := h7.1
                have zQ := h7.2.1
                have zB := yB.trans (h7.2.2.1.mono (by have := yB.size; omega))
                generalize wy.heap.size = gy at *
                clear yL yM yB h7
                have zR1 := zL.range; have zR2 := zM.range; have zR3 := zP.range; have zR4 := zQ.range
                have zl1 := zL.lt; have zl2 := zM.lt; have zl3 := zP.lt; have zl4 := zQ.lt
                refine wp_region_listed 16 [] (Below wz.heap.size wz) (by decide) (Stable.below wz) (Below.refl _ _) ?_
                simp only [List.range, List.range.loop, opsOf, List.getElem?_cons_succ, List.getElem?_cons_zero, List.drop_succ_cons, List.drop_zero]
                refine wpL_val ?v20 rfl (by rfl) (fun wq hq => ?y20) ?z20
                case y20 => go_simp; exact known_any _ (Hk.out.below (zB.trans (hq.mono (by have := zB.size; omega))) (by omega))
                try simp only [Act.put, List.setIfInBounds_toArray, List.set_cons_zero, List.set_cons_succ]
                refine wpL_val ?v21 rfl (by rfl) (fun wq hq => ?y21) ?z21
                case y21 => go_simp; with_reducible rfl
                try simp only [Act.put, List.setIfInBounds_toArray, List.set_cons_zero, List.set_cons_succ]
                refine wpL_val ?v22 rfl (by rfl) (fun wq hq => ?y22) ?z22
                case y22 => go_simp; with_reducible rfl
                try simp only [Act.put, List.setIfInBounds_toArray, List.set_cons_zero, List.set_cons_succ]
                refine wpL_val ?v23 rfl (by rfl) (fun wq hq => ?y23) ?z23
                case y23 => go_simp; with_reducible rfl
                try simp only [Act.put, List.setIfInBounds_toArray, List.set_cons_zero, List.set_cons_succ]
                refine wpL_val ?v24 rfl (by rfl) (fun wq hq => ?y24) ?z24
                case y24 => go_simp; with_reducible rfl
                try simp only [Act.put, List.setIfInBounds_toArray, List.set_cons_zero, List.set_cons_succ]
                refine wpL_val ?v25 rfl (by rfl) (fun wq hq => ?y25) ?z25
                case y25 => go_simp; with_reducible rfl
                try simp only [Act.put, List.setIfInBounds_toArray, List.set_cons_zero, List.set_cons_succ]
                refine wpL_val ?v26 rfl (by rfl) (fun wq hq => ?y26) ?z26
                case y26 => go_simp; with_reducible rfl
                try simp only [Act.put, List.setIfInBounds_toArray, List.set_cons_zero, List.set_cons_succ]
                refine wpL_val (.agg lra.toArray) rfl (by rfl) (fun wq hq => quiet_ld 24 _ rfl _ _ rfl lra _ (range_below zR1 hq zl1) hu.out rfl lra_LI.out) ?_
                try simp only [Act.put, List.setIfInBounds_toArray, List.set_cons_zero, List.set_cons_succ]
                refine wpL_val (.agg lra.toArray) rfl (by rfl) (fun wq hq => quiet_ld 23 _ rfl _ _ rfl lra _ (range_below zR3 hq zl3) huR.out rfl lra_LIR.out) ?_
                try simp only [Act.put, List.setIfInBounds_toArray, List.set_cons_zero, List.set_cons_succ]
                refine wpL_val ?v29 rfl (by rfl) (fun wq hq => ?y29) ?z29
                case y29 => go_simp; rw [eqlR ra ra hral hral _ _ HRA2.out HRA2.out, decide_eq_true rfl]; go_simp; with_reducible rfl
                try simp only [Act.put, List.setIfInBounds_toArray, List.set_cons_zero, List.set_cons_succ]
                refine wpL_val ?v30 rfl (by rfl) (fun wq hq => ?y30) ?z30
                case y30 => go_simp; with_reducible rfl
                try simp only [Act.put, List.setIfInBounds_toArray, List.set_cons_zero, List.set_cons_succ]
                refine wpL_val ?v31 rfl (by rfl) (fun wq hq => ?y31) ?z31
                case y31 => go_simp; with_reducible rfl
                try simp only [Act.put, List.setIfInBounds_toArray, List.set_cons_zero, List.set_cons_succ]
                refine wpL_val (.agg lrb.toArray) rfl (by rfl) (fun wq hq => quiet_ld 24 _ rfl _ _ rfl lrb _ (range_below zR2 hq zl2) hu.out rfl lrb_LI.out) ?_
                try simp only [Act.put, List.setIfInBounds_toArray, List.set_cons_zero, List.set_cons_succ]
                refine wpL_val (.agg lrb.toArray) rfl (by rfl) (fun wq hq => quiet_ld 23 _ rfl _ _ rfl lrb _ (range_below zR4 hq zl4) huR.out rfl lrb_LIR.out) ?_
                try simp only [Act.put, List.setIfInBounds_toArray, List.set_cons_zero, List.set_cons_succ]
                refine wpL_val ?v34 rfl (by rfl) (fun wq hq => ?y34) ?z34
                case y34 => go_simp; rw [eqlR rb rb hrbl hrbl _ _ HRB2.out HRB2.out, decide_eq_true rfl]; go_simp; with_reducible rfl
                try simp only [Act.put, List.setIfInBounds_toArray, List.set_cons_zero, List.set_cons_succ]
                refine wpL_val ?v35 rfl (by rfl) (fun wq hq => ?y35) ?z35
                case y35 => go_simp; with_reducible rfl
                try simp only [Act.put, List.setIfInBounds_toArray, List.set_cons_zero, List.set_cons_succ]
                refine wpL_nil ?_
                intro wt hwt
                go_wp2_with fail
                go_ret
                exact ⟨rfl, by (try rw [hAe]); exact zB.trans (hwt.mono (by have := zB.size; omega))⟩
      · rw [if_pos (by rfl)]
        go_simp
        refine hK.out _ _ (hH1.alloc hH1.size (.cells (List.replicate 32 (V8 0)).toArray 24)) (fun hH17 => ?_)
        clear hK K
        try simp only [Act.put, List.getElem_toArray, List.getElem_cons_succ, List.getElem_cons_zero, List.setIfInBounds_toArray, List.set_cons_zero, List.set_cons_succ]
        have hA17 := Arr.new W1 24 (List.replicate 32 (V8 0))
        have hV17 := hV1.below (below_alloc W1 (.cells (List.replicate 32 (V8 0)).toArray 24)) (Nat.le_refl _)
        clear hV1
        have hga : w0.heap.size ≤ W1.heap.size := hH1.size
        change wpAnyH _ _ _ _ _ _ _ _ (W1.alloc (.cells (List.replicate 32 (V8 0)).toArray 24))
        clear hH1
        change Below w0.heap.size w0 (W1.alloc (.cells (List.replicate 32 (V8 0)).toArray 24)) at hH17
        generalize W1.alloc (.cells (List.replicate 32 (V8 0)).toArray 24) = W17 at *
        generalize W1.heap.size = ga at *
        refine wpAnyH_ready (rs := [9, 15]) (by kernel_rfl) (by simp) ?_
        refine AllReadyH.cons rfl (fun K hK => ?_) (AllReadyH.cons rfl (fun K hK => ?_) AllReadyH.nil)
        · rw [if_pos (by rfl)]
          go_simp
          refine (hext _ _ hV17 (Hk.out.below (hW0.trans (hH17.mono (by omega))) (by omega))).mono ?_
          rintro e W18 ⟨rfl, hb18⟩
          rw [HRA.out, HRB.out]
          refine hK.out _ _ (hH17.trans (hb18.mono hH17.size)) (fun hH18 => ?_)
          clear hK K
          try simp only [Act.put, List.getElem_toArray, List.getElem_cons_succ, List.getElem_cons_zero, List.setIfInBounds_toArray, List.set_cons_zero, List.set_cons_succ]
          have hA18 := hA17.below hb18 hA17.lt
          clear hA17
          clear hb18 hH17 hV17
          refine wpAnyH_take (i := 10) (v := ?tv19) rfl (by kernel_rfl) (by kernel_rfl) (by kernel_rfl) (fun _ _ _ h => h) (Or.inl ⟨by rfl, ?ty19⟩) hH18 ?tr19
          case ty19 => intro wq hq; go_simp; with_reducible rfl
          try simp only [Act.put, List.getElem_toArray, List.getElem_cons_succ, List.getElem_cons_zero, List.setIfInBounds_toArray, List.set_cons_zero, List.set_cons_succ]
          refine wpAnyH_take (i := 11) (v := ?tv20) rfl (by kernel_rfl) (by kernel_rfl) (by kernel_rfl) (fun _ _ _ h => h) (Or.inl ⟨by rfl, ?ty20⟩) hH18 ?tr20
          case ty20 => intro wq hq; go_simp; with_reducible rfl
          try simp only [Act.put, List.getElem_toArray, List.getElem_cons_succ, List.getElem_cons_zero, List.setIfInBounds_toArray, List.set_cons_zero, List.set_cons_succ]
          refine wpAnyH_take (i := 12) (v := ?tv21) rfl (by kernel_rfl) (by kernel_rfl) (by kernel_rfl) (fun _ _ _ h => h) (Or.inl ⟨by rfl, ?ty21⟩) hH18 ?tr21
          case ty21 => intro wq hq; go_simp; with_reducible rfl
          try simp only [Act.put, List.getElem_toArray, List.getElem_cons_succ, List.getElem_cons_zero, List.setIfInBounds_toArray, List.set_cons_zero, List.set_cons_succ]
          refine wpAnyH_take (i := 13) (v := ?tv22) rfl (by kernel_rfl) (by kernel_rfl) (by kernel_rfl) (fun _ _ _ h => h) (Or.inl ⟨by rfl, ?ty22⟩) hH18 ?tr22
          case ty22 => intro wq hq; go_simp; with_reducible rfl
          try simp only [Act.put, List.getElem_toArray, List.getElem_cons_succ, List.getElem_cons_zero, List.setIfInBounds_toArray, List.set_cons_zero, List.set_cons_succ]
          refine wpAnyH_ready (rs := [15]) (by kernel_rfl) (by simp) ?_
          refine AllReadyH.cons rfl (fun K hK => ?_) AllReadyH.nil
          · rw [if_pos (by rfl)]
            go_simp
            refine hK.out _ _ (hH18.alloc hH18.size (.cells (List.replicate 32 (V8 0)).toArray 24)) (fun hH23 => ?_)
            clear hK K
            try simp only [Act.put, List.getElem_toArray, List.getElem_cons_succ, List.getElem_cons_zero, List.setIfInBounds_toArray, List.set_cons_zero, List.set_cons_succ]
            have hB23 := Arr.new W18 24 (List.replicate 32 (V8 0))
            have hne := hA18.lt
            have hA23 := hA18.alloc (.cells (List.replicate 32 (V8 0)).toArray 24)
            clear hA18
            have hgb : w0.heap.size ≤ W18.heap.size := hH18.size
            change wpAnyH _ _ _ _ _ _ _ _ (W18.alloc (.cells (List.replicate 32 (V8 0)).toArray 24))
            clear hH18
            change Below w0.heap.size w0 (W18.alloc (.cells (List.replicate 32 (V8 0)).toArray 24)) at hH23
            generalize W18.alloc (.cells (List.replicate 32 (V8 0)).toArray 24) = W23 at *
            generalize W18.heap.size = gb at *
            refine wpAnyH_ready (rs := [16]) (by kernel_rfl) (by simp) ?_
            refine AllReadyH.cons rfl (fun K hK => ?_) AllReadyH.nil
            · rw [if_pos (by rfl)]
              refine wp_store_row 24 (.tmp 3) (.tmp 25) rfl ga lra.toArray rfl rfl 24 _ hA23 lra_HI.out lra_HS.out lra_HO.out ?_
              refine hK.out _ _ (below_setRow hH23 hga _) (fun hH24 => ?_)
              clear hK K
              try simp only [Act.put, List.getElem_toArray, List.getElem_cons_succ, List.getElem_cons_zero, List.setIfInBounds_toArray, List.set_cons_zero, List.set_cons_succ]
              have hA24 := hA23.setRow lra.toArray
              have hB24 := hB23.setRow_other ga lra.toArray (by omega)
              change Arr (W23.setRow ga lra.toArray) ga 24 lra at hA24
              change wpAnyH _ _ _ _ _ _ _ _ (W23.setRow ga lra.toArray)
              change Below w0.heap.size w0 (W23.setRow ga lra.toArray) at hH24
              clear hA23 hB23 hH23
              generalize W23.setRow ga lra.toArray = W24 at *
              refine wpAnyH_ready (rs := [17]) (by kernel_rfl) (by simp) ?_
              refine AllReadyH.cons rfl (fun K hK => ?_) AllReadyH.nil
              · rw [if_pos (by rfl)]
                refine wp_store_row 24 (.tmp 4) (.tmp 26) rfl gb lrb.toArray rfl rfl 24 _ hB24 lrb_HI.out lrb_HS.out lrb_HO.out ?_
                refine hK.out _ _ (below_setRow hH24 hgb _) (fun hH25 => ?_)
                clear hK K
                try simp only [Act.put, List.getElem_toArray, List.getElem_cons_succ, List.getElem_cons_zero, List.setIfInBounds_toArray, List.set_cons_zero, List.set_cons_succ]
                have hB25 := hB24.setRow lrb.toArray
                have hA25 := hA24.setRow_other gb lrb.toArray (by omega)
                change Arr (W24.setRow gb lrb.toArray) gb 24 lrb at hB25
                change wpAnyH _ _ _ _ _ _ _ _ (W24.setRow gb lrb.toArray)
                change Below w0.heap.size w0 (W24.setRow gb lrb.toArray) at hH25
                clear hA24 hB24 hH24
                generalize W24.setRow gb lrb.toArray = W25 at *
                refine wpAnyH_take (i := 18) (v := ?tv26) rfl (by kernel_rfl) (by kernel_rfl) (by kernel_rfl) (fun _ _ _ h => h) (Or.inl ⟨by rfl, ?ty26⟩) hH25 ?tr26
                case ty26 => intro wq hq; go_simp; with_reducible rfl
                try simp only [Act.put, List.getElem_toArray, List.getElem_cons_succ, List.getElem_cons_zero, List.setIfInBounds_toArray, List.set_cons_zero, List.set_cons_succ]
                refine wpAnyH_done (by kernel_rfl) ?_ _
                simp only [List.getElem_toArray, List.getElem_cons_succ, List.getElem_cons_zero, Exit.then, Act.put, List.setIfInBounds_toArray, List.set_cons_zero, List.set_cons_succ]
                go_at_K
                have hX := hH25; have hXA := hA25; have hXB := hB25
                clear hH25 hA25 hB25
                generalize W25 = wx at *
                have xB := hW0.trans (hX.mono (by omega))
                have xR := range_below hr0 hX hAl
                have x32 := (hX.cell (p := ⟨A, 32, none⟩) hAl).trans hc32
                have x33 := (hX.cell (p := ⟨A, 33, none⟩) hAl).trans hc33
                have x34 := (hX.cell (p := ⟨A, 34, none⟩) hAl).trans hc34
                have xV := HD.out.below xB (by omega)
                have XR := Lib.hid xR
                clear hX xR
                go_wp2_with ((with_reducible refine at_ld 23 (.tmp 29) ?_); refine wpList_load_mid rfl 23 (.tmp 29) rfl A 0 rfl la _ XR.out huR.out rfl HLI.out ?_)
                refine (hextR _ xV).mono ?_
                rintro e wy ⟨rfl, hby⟩
                rw [HRA.out, HRB.out]
                have yB := xB.trans (hby.mono (by have := xB.size; omega))
                have yL := hXA.below hby hXA.lt
                have yM := hXB.below hby hXB.lt
                clear hby xB hXA hXB xV x32 x33 x34 XR
                have h6 := Lib.hid (two_vars wy 23 lra lrb)
                go_upto_region 5 with (first | ((with_reducible refine at_st 23 (.tmp 6) (.tmp 38) ?_); refine wpList_store_row rfl 23 (.tmp 6) (.tmp 38) rfl wy.heap.size lra.toArray rfl rfl 23 _ h6.out.1 lra_HIR.out lra_HS.out lra_HO.out ?_) | ((with_reducible refine at_st 23 (.tmp 7) (.tmp 39) ?_); refine wpList_store_row rfl 23 (.tmp 7) (.tmp 39) rfl (wy.heap.size + 1) lrb.toArray rfl rfl 23 _ h6.out.2.1 lrb_HIR.out lrb_HS.out lrb_HO.out ?_))
                have h7 := h6.out.2.2
                clear h6
                change Code.wp _ _ _ _ ((((wy.alloc (Z32 23)).alloc (Z32 23)).setRow wy.heap.size lra.toArray).setRow (wy.heap.size + 1) lrb.toArray)
                generalize ((((wy.alloc (Z32 23)).alloc (Z32 23)).setRow wy.heap.size lra.toArray).setRow (wy.heap.size + 1) lrb.toArray) = wz at *
                have zL := yL.below h7.2.2.1 yL.lt
                have zM := yM.below h7.2.2.1 yM.lt
                have zP := h7.1
                have zQ := h7.2.1
                have zB := yB.trans (h7.2.2.1.mono (by have := yB.size; omega))
                generalize wy.heap.size = gy at *
                clear yL yM yB h7
                have zR1 := zL.range; have zR2 := zM.range; have zR3 := zP.range; have zR4 := zQ.range
                have zl1 := zL.lt; have zl2 := zM.lt; have zl3 := zP.lt; have zl4 := zQ.lt
                refine wp_region_listed 16 [] (Below wz.heap.size wz) (by decide) (Stable.below wz) (Below.refl _ _) ?_
                simp only [List.range, List.range.loop, opsOf, List.getElem?_cons_succ, List.getElem?_cons_zero, List.drop_succ_cons, List.drop_zero]
                refine wpL_val ?v38 rfl (by rfl) (fun wq hq => ?y38) ?z38
                case y38 => go_simp; exact known_any _ (Hk.out.below (zB.trans (hq.mono (by have := zB.size; omega))) (by omega))
                try simp only [Act.put, List.setIfInBounds_toArray, List.set_cons_zero, List.set_cons_succ]
                refine wpL_val ?v39 rfl (by rfl) (fun wq hq => ?y39) ?z39
                case y39 => go_simp; with_reducible rfl
                try simp only [Act.put, List.setIfInBounds_toArray, List.set_cons_zero, List.set_cons_succ]
                refine wpL_val ?v40 rfl (by rfl) (fun wq hq => ?y40) ?z40
                case y40 => go_simp; with_reducible rfl
                try simp only [Act.put, List.setIfInBounds_toArray, List.set_cons_zero, List.set_cons_succ]
                refine wpL_val ?v41 rfl (by rfl) (fun wq hq => ?y41) ?z41
                case y41 => go_simp; with_reducible rfl
                try simp only [Act.put, List.setIfInBounds_toArray, List.set_cons_zero, List.set_cons_succ]
                refine wpL_val ?v42 rfl (by rfl) (fun wq hq => ?y42) ?z42
                case y42 => go_simp; with_reducible rfl
                try simp only [Act.put, List.setIfInBounds_toArray, List.set_cons_zero, List.set_cons_succ]
                refine wpL_val ?v43 rfl (by rfl) (fun wq hq => ?y43) ?z43
                case y43 => go_simp; with_reducible rfl
                try simp only [Act.put, List.setIfInBounds_toArray, List.set_cons_zero, List.set_cons_succ]
                refine wpL_val ?v44 rfl (by rfl) (fun wq hq => ?y44) ?z44
                case y44 => go_simp; with_reducible rfl
                try simp only [Act.put, List.setIfInBounds_toArray, List.set_cons_zero, List.set_cons_succ]
                refine wpL_val (.agg lra.toArray) rfl (by rfl) (fun wq hq => quiet_ld 24 _ rfl _ _ rfl lra _ (range_below zR1 hq zl1) hu.out rfl lra_LI.out) ?_
                try simp only [Act.put, List.setIfInBounds_toArray, List.set_cons_zero, List.set_cons_succ]
                refine wpL_val (.agg lra.toArray) rfl (by rfl) (fun wq hq => quiet_ld 23 _ rfl _ _ rfl lra _ (range_below zR3 hq zl3) huR.out rfl lra_LIR.out) ?_
                try simp only [Act.put, List.setIfInBounds_toArray, List.set_cons_zero, List.set_cons_succ]
                refine wpL_val ?v47 rfl (by rfl) (fun wq hq => ?y47) ?z47
                case y47 => go_simp; rw [eqlR ra ra hral hral _ _ HRA2.out HRA2.out, decide_eq_true rfl]; go_simp; with_reducible rfl
                try simp only [Act.put, List.setIfInBounds_toArray, List.set_cons_zero, List.set_cons_succ]
                refine wpL_val ?v48 rfl (by rfl) (fun wq hq => ?y48) ?z48
                case y48 => go_simp; with_reducible rfl
                try simp only [Act.put, List.setIfInBounds_toArray, List.set_cons_zero, List.set_cons_succ]
                refine wpL_val ?v49 rfl (by rfl) (fun wq hq => ?y49) ?z49
                case y49 => go_simp; with_reducible rfl
                try simp only [Act.put, List.setIfInBounds_toArray, List.set_cons_zero, List.set_cons_succ]
                refine wpL_val (.agg lrb.toArray) rfl (by rfl) (fun wq hq => quiet_ld 24 _ rfl _ _ rfl lrb _ (range_below zR2 hq zl2) hu.out rfl lrb_LI.out) ?_
                try simp only [Act.put, List.setIfInBounds_toArray, List.set_cons_zero, List.set_cons_succ]
                refine wpL_val (.agg lrb.toArray) rfl (by rfl) (fun wq hq => quiet_ld 23 _ rfl _ _ rfl lrb _ (range_below zR4 hq zl4) huR.out rfl lrb_LIR.out) ?_
                try simp only [Act.put, List.setIfInBounds_toArray, List.set_cons_zero, List.set_cons_succ]
                refine wpL_val ?v52 rfl (by rfl) (fun wq hq => ?y52) ?z52
                case y52 => go_simp; rw [eqlR rb rb hrbl hrbl _ _ HRB2.out HRB2.out, decide_eq_true rfl]; go_simp; with_reducible rfl
                try simp only [Act.put, List.setIfInBounds_toArray, List.set_cons_zero, List.set_cons_succ]
                refine wpL_val ?v53 rfl (by rfl) (fun wq hq => ?y53) ?z53
                case y53 => go_simp; with_reducible rfl
                try simp only [Act.put, List.setIfInBounds_toArray, List.set_cons_zero, List.set_cons_succ]
                refine wpL_nil ?_
                intro wt hwt
                go_wp2_with fail
                go_ret
                exact ⟨rfl, by (try rw [hAe]); exact zB.trans (hwt.mono (by have := zB.size; omega))⟩
        · rw [if_pos (by rfl)]
          go_simp
          refine hK.out _ _ (hH17.alloc hH17.size (.cells (List.replicate 32 (V8 0)).toArray 24)) (fun hH27 => ?_)
          clear hK K
          try simp only [Act.put, List.getElem_toArray, List.getElem_cons_succ, List.getElem_cons_zero, List.setIfInBounds_toArray, List.set_cons_zero, List.set_cons_succ]
          have hB27 := Arr.new W17 24 (List.replicate 32 (V8 0))
          have hV27 := hV17.below (below_alloc W17 (.cells (List.replicate 32 (V8 0)).toArray 24)) (Nat.le_refl _)
          clear hV17
          have hne := hA17.lt
          have hA27 := hA17.alloc (.cells (List.replicate 32 (V8 0)).toArray 24)
          clear hA17
          have hgb : w0.heap.size ≤ W17.heap.size := hH17.size
          change wpAnyH _ _ _ _ _ _ _ _ (W17.alloc (.cells (List.replicate 32 (V8 0)).toArray 24))
          clear hH17
          change Below w0.heap.size w0 (W17.alloc (.cells (List.replicate 32 (V8 0)).toArray 24)) at hH27
          generalize W17.alloc (.cells (List.replicate 32 (V8 0)).toArray 24) = W27 at *
          generalize W17.heap.size = gb at *
          refine wpAnyH_ready (rs := [9]) (by kernel_rfl) (by simp) ?_
          refine AllReadyH.cons rfl (fun K hK => ?_) AllReadyH.nil
          · rw [if_pos (by rfl)]
            go_simp
            refine (hext _ _ hV27 (Hk.out.below (hW0.trans (hH27.mono (by omega))) (by omega))).mono ?_
            rintro e W28 ⟨rfl, hb28⟩
            rw [HRA.out, HRB.out]
            refine hK.out _ _ (hH27.trans (hb28.mono hH27.size)) (fun hH28 => ?_)
            clear hK K
            try simp only [Act.put, List.getElem_toArray, List.getElem_cons_succ, List.getElem_cons_zero, List.setIfInBounds_toArray, List.set_cons_zero, List.set_cons_succ]
            have hA28 := hA27.below hb28 hA27.lt
            clear hA27
            have hB28 := hB27.below hb28 hB27.lt
            clear hB27
            clear hb28 hH27 hV27
            refine wpAnyH_take (i := 10) (v := ?tv29) rfl (by kernel_rfl) (by kernel_rfl) (by kernel_rfl) (fun _ _ _ h => h) (Or.inl ⟨by rfl, ?ty29⟩) hH28 ?tr29
            case ty29 => intro wq hq; go_simp; with_reducible rfl
            try simp only [Act.put, List.getElem_toArray, List.getElem_cons_succ, List.getElem_cons_zero, List.setIfInBounds_toArray, List.set_cons_zero, List.set_cons_succ]
            refine wpAnyH_take (i := 11) (v := ?tv30) rfl (by kernel_rfl) (by kernel_rfl) (by kernel_rfl) (fun _ _ _ h => h) (Or.inl ⟨by rfl, ?ty30⟩) hH28 ?tr30
            case ty30 => intro wq hq; go_simp; with_reducible rfl
            try simp only [Act.put, List.getElem_toArray, List.getElem_cons_succ, List.getElem_cons_zero, List.setIfInBounds_toArray, List.set_cons_zero, List.set_cons_succ]
            refine wpAnyH_take (i := 12) (v := ?tv31) rfl (by kernel_rfl) (by kernel_rfl) (by kernel_rfl) (fun _ _ _ h => h) (Or.inl ⟨by rfl, ?ty31⟩) hH28 ?tr31
            case ty31 => intro wq hq; go_simp; with_reducible rfl
            try simp only [Act.put, List.getElem_toArray, List.getElem_cons_succ, List.getElem_cons_zero, List.setIfInBounds_toArray, List.set_cons_zero, List.set_cons_succ]
            refine wpAnyH_take (i := 13) (v := ?tv32) rfl (by kernel_rfl) (by kernel_rfl) (by kernel_rfl) (fun _ _ _ h => h) (Or.inl ⟨by rfl, ?ty32⟩) hH28 ?tr32
            case ty32 => intro wq hq; go_simp; with_reducible rfl
            try simp only [Act.put, List.getElem_toArray, List.getElem_cons_succ, List.getElem_cons_zero, List.setIfInBounds_toArray, List.set_cons_zero, List.set_cons_succ]
            refine wpAnyH_ready (rs := [16]) (by kernel_rfl) (by simp) ?_
            refine AllReadyH.cons rfl (fun K hK => ?_) AllReadyH.nil
            · rw [if_pos (by rfl)]
              refine wp_store_row 24 (.tmp 3) (.tmp 25) rfl ga lra.toArray rfl rfl 24 _ hA28 lra_HI.out lra_HS.out lra_HO.out ?_
              refine hK.out _ _ (below_setRow hH28 hga _) (fun hH33 => ?_)
              clear hK K
              try simp only [Act.put, List.getElem_toArray, List.getElem_cons_succ, List.getElem_cons_zero, List.setIfInBounds_toArray, List.set_cons_zero, List.set_cons_succ]
              have hA33 := hA28.setRow lra.toArray
              have hB33 := hB28.setRow_other ga lra.toArray (by omega)
              change Arr (W28.setRow ga lra.toArray) ga 24 lra at hA33
              change wpAnyH _ _ _ _ _ _ _ _ (W28.setRow ga lra.toArray)
              change Below w0.heap.size w0 (W28.setRow ga lra.toArray) at hH33
              clear hA28 hB28 hH28
              generalize W28.setRow ga lra.toArray = W33 at *
              refine wpAnyH_ready (rs := [17]) (by kernel_rfl) (by simp) ?_
              refine AllReadyH.cons rfl (fun K hK => ?_) AllReadyH.nil
              · rw [if_pos (by rfl)]
                refine wp_store_row 24 (.tmp 4) (.tmp 26) rfl gb lrb.toArray rfl rfl 24 _ hB33 lrb_HI.out lrb_HS.out lrb_HO.out ?_
                refine hK.out _ _ (below_setRow hH33 hgb _) (fun hH34 => ?_)
                clear hK K
                try simp only [Act.put, List.getElem_toArray, List.getElem_cons_succ, List.getElem_cons_zero, List.setIfInBounds_toArray, List.set_cons_zero, List.set_cons_succ]
                have hB34 := hB33.setRow lrb.toArray
                have hA34 := hA33.setRow_other gb lrb.toArray (by omega)
                change Arr (W33.setRow gb lrb.toArray) gb 24 lrb at hB34
                change wpAnyH _ _ _ _ _ _ _ _ (W33.setRow gb lrb.toArray)
                change Below w0.heap.size w0 (W33.setRow gb lrb.toArray) at hH34
                clear hA33 hB33 hH33
                generalize W33.setRow gb lrb.toArray = W34 at *
                refine wpAnyH_take (i := 18) (v := ?tv35) rfl (by kernel_rfl) (by kernel_rfl) (by kernel_rfl) (fun _ _ _ h => h) (Or.inl ⟨by rfl, ?ty35⟩) hH34 ?tr35
                case ty35 => intro wq hq; go_simp; with_reducible rfl
                try simp only [Act.put, List.getElem_toArray, List.getElem_cons_succ, List.getElem_cons_zero, List.setIfInBounds_toArray, List.set_cons_zero, List.set_cons_succ]
                refine wpAnyH_done (by kernel_rfl) ?_ _
                simp only [List.getElem_toArray, List.getElem_cons_succ, List.getElem_cons_zero, Exit.then, Act.put, List.setIfInBounds_toArray, List.set_cons_zero, List.set_cons_succ]
                go_at_K
                have hX := hH34; have hXA := hA34; have hXB := hB34
                clear hH34 hA34 hB34
                generalize W34 = wx at *
                have xB := hW0.trans (hX.mono (by omega))
                have xR := range_below hr0 hX hAl
                have x32 := (hX.cell (p := ⟨A, 32, none⟩) hAl).trans hc32
                have x33 := (hX.cell (p := ⟨A, 33, none⟩) hAl).trans hc33
                have x34 := (hX.cell (p := ⟨A, 34, none⟩) hAl).trans hc34
                have xV := HD.out.below xB (by omega)
                have XR := Lib.hid xR
                clear hX xR
                go_wp2_with ((with_reducible refine at_ld 23 (.tmp 29) ?_); refine wpList_load_mid rfl 23 (.tmp 29) rfl A 0 rfl la _ XR.out huR.out rfl HLI.out ?_)
                refine (hextR _ xV).mono ?_
                rintro e wy ⟨rfl, hby⟩
                rw [HRA.out, HRB.out]
                have yB := xB.trans (hby.mono (by have := xB.size; omega))
                have yL := hXA.below hby hXA.lt
                have yM := hXB.below hby hXB.lt
                clear hby xB hXA hXB xV x32 x33 x34 XR
                have h6 := Lib.hid (two_vars wy 23 lra lrb)
                go_upto_region 5 with (first | ((with_reducible refine at_st 23 (.tmp 6) (.tmp 38) ?_); refine wpList_store_row rfl 23 (.tmp 6) (.tmp 38) rfl wy.heap.size lra.toArray rfl rfl 23 _ h6.out.1 lra_HIR.out lra_HS.out lra_HO.out ?_) | ((with_reducible refine at_st 23 (.tmp 7) (.tmp 39) ?_); refine wpList_store_row rfl 23 (.tmp 7) (.tmp 39) rfl (wy.heap.size + 1) lrb.toArray rfl rfl 23 _ h6.out.2.1 lrb_HIR.out lrb_HS.out lrb_HO.out ?_))
                have h7 := h6.out.2.2
                clear h6
                change Code.wp _ _ _ _ ((((wy.alloc (Z32 23)).alloc (Z32 23)).setRow wy.heap.size lra.toArray).setRow (wy.heap.size + 1) lrb.toArray)
                generalize ((((wy.alloc (Z32 23)).alloc (Z32 23)).setRow wy.heap.size lra.toArray).setRow (wy.heap.size + 1) lrb.toArray) = wz at *
                have zL := yL.below h7.2.2.1 yL.lt
                have zM := yM.below h7.2.2.1 yM.lt
                have zP := h7.1
                have zQ := h7.2.1
                have zB := yB.trans (h7.2.2.1.mono (by have := yB.size; omega))
                generalize wy.heap.size = gy at *
                clear yL yM yB h7
                have zR1 := zL.range; have zR2 := zM.range; have zR3 := zP.range; have zR4 := zQ.range
                have zl1 := zL.lt; have zl2 := zM.lt; have zl3 := zP.lt; have zl4 := zQ.lt
                refine wp_region_listed 16 [] (Below wz.heap.size wz) (by decide) (Stable.below wz) (Below.refl _ _) ?_
                simp only [List.range, List.range.loop, opsOf, List.getElem?_cons_succ, List.getElem?_cons_zero, List.drop_succ_cons, List.drop_zero]
                refine wpL_val ?v56 rfl (by rfl) (fun wq hq => ?y56) ?z56
                case y56 => go_simp; exact known_any _ (Hk.out.below (zB.trans (hq.mono (by have := zB.size; omega))) (by omega))
                try simp only [Act.put, List.setIfInBounds_toArray, List.set_cons_zero, List.set_cons_succ]
                refine wpL_val ?v57 rfl (by rfl) (fun wq hq => ?y57) ?z57
                case y57 => go_simp; with_reducible rfl
                try simp only [Act.put, List.setIfInBounds_toArray, List.set_cons_zero, List.set_cons_succ]
                refine wpL_val ?v58 rfl (by rfl) (fun wq hq => ?y58) ?z58
                case y58 => go_simp; with_reducible rfl
                try simp only [Act.put, List.setIfInBounds_toArray, List.set_cons_zero, List.set_cons_succ]
                refine wpL_val ?v59 rfl (by rfl) (fun wq hq => ?y59) ?z59
                case y59 => go_simp; with_reducible rfl
                try simp only [Act.put, List.setIfInBounds_toArray, List.set_cons_zero, List.set_cons_succ]
                refine wpL_val ?v60 rfl (by rfl) (fun wq hq => ?y60) ?z60
                case y60 => go_simp; with_reducible rfl
                try simp only [Act.put, List.setIfInBounds_toArray, List.set_cons_zero, List.set_cons_succ]
                refine wpL_val ?v61 rfl (by rfl) (fun wq hq => ?y61) ?z61
                case y61 => go_simp; with_reducible rfl
                try simp only [Act.put, List.setIfInBounds_toArray, List.set_cons_zero, List.set_cons_succ]
                refine wpL_val ?v62 rfl (by rfl) (fun wq hq => ?y62) ?z62
                case y62 => go_simp; with_reducible rfl
                try simp only [Act.put, List.setIfInBounds_toArray, List.set_cons_zero, List.set_cons_succ]
                refine wpL_val (.agg lra.toArray) rfl (by rfl) (fun wq hq => quiet_ld 24 _ rfl _ _ rfl lra _ (range_below zR1 hq zl1) hu.out rfl lra_LI.out) ?_
                try simp only [Act.put, List.setIfInBounds_toArray, List.set_cons_zero, List.set_cons_succ]
                refine wpL_val (.agg lra.toArray) rfl (by rfl) (fun wq hq => quiet_ld 23 _ rfl _ _ rfl lra _ (range_below zR3 hq zl3) huR.out rfl lra_LIR.out) ?_
                try simp only [Act.put, List.setIfInBounds_toArray, List.set_cons_zero, List.set_cons_succ]
                refine wpL_val ?v65 rfl (by rfl) (fun wq hq => ?y65) ?z65
                case y65 => go_simp; rw [eqlR ra ra hral hral _ _ HRA2.out HRA2.out, decide_eq_true rfl]; go_simp; with_reducible rfl
                try simp only [Act.put, List.setIfInBounds_toArray, List.set_cons_zero, List.set_cons_succ]
                refine wpL_val ?v66 rfl (by rfl) (fun wq hq => ?y66) ?z66
                case y66 => go_simp; with_reducible rfl
                try simp only [Act.put, List.setIfInBounds_toArray, List.set_cons_zero, List.set_cons_succ]
                refine wpL_val ?v67 rfl (by rfl) (fun wq hq => ?y67) ?z67
                case y67 => go_simp; with_reducible rfl
                try simp only [Act.put, List.setIfInBounds_toArray, List.set_cons_zero, List.set_cons_succ]
                refine wpL_val (.agg lrb.toArray) rfl (by rfl) (fun wq hq => quiet_ld 24 _ rfl _ _ rfl lrb _ (range_below zR2 hq zl2) hu.out rfl lrb_LI.out) ?_
                try simp only [Act.put, List.setIfInBounds_toArray, List.set_cons_zero, List.set_cons_succ]
                refine wpL_val (.agg lrb.toArray) rfl (by rfl) (fun wq hq => quiet_ld 23 _ rfl _ _ rfl lrb _ (range_below zR4 hq zl4) huR.out rfl lrb_LIR.out) ?_
                try simp only [Act.put, List.setIfInBounds_toArray, List.set_cons_zero, List.set_cons_succ]
                refine wpL_val ?v70 rfl (by rfl) (fun wq hq => ?y70) ?z70
                case y70 => go_simp; rw [eqlR rb rb hrbl hrbl _ _ HRB2.out HRB2.out, decide_eq_true rfl]; go_simp; with_reducible rfl
                try simp only [Act.put, List.setIfInBounds_toArray, List.set_cons_zero, List.set_cons_succ]
                refine wpL_val ?v71 rfl (by rfl) (fun wq hq => ?y71) ?z71
                case y71 => go_simp; with_reducible rfl
                try simp only [Act.put, List.setIfInBounds_toArray, List.set_cons_zero, List.set_cons_succ]
                refine wpL_nil ?_
                intro wt hwt
                go_wp2_with fail
                go_ret
                exact ⟨rfl, by (try rw [hAe]); exact zB.trans (hwt.mono (by have := zB.size; omega))⟩
      · rw [if_pos (by rfl)]
        go_simp
        refine hK.out _ _ (hH1.alloc hH1.size (.cells (List.replicate 32 (V8 0)).toArray 24)) (fun hH36 => ?_)
        clear hK K
        try simp only [Act.put, List.getElem_toArray, List.getElem_cons_succ, List.getElem_cons_zero, List.setIfInBounds_toArray, List.set_cons_zero, List.set_cons_succ]
        have hB36 := Arr.new W1 24 (List.replicate 32 (V8 0))
        have hV36 := hV1.below (below_alloc W1 (.cells (List.replicate 32 (V8 0)).toArray 24)) (Nat.le_refl _)
        clear hV1
        have hgb : w0.heap.size ≤ W1.heap.size := hH1.size
        change wpAnyH _ _ _ _ _ _ _ _ (W1.alloc (.cells (List.replicate 32 (V8 0)).toArray 24))
        clear hH1
        change Below w0.heap.size w0 (W1.alloc (.cells (List.replicate 32 (V8 0)).toArray 24)) at hH36
        generalize W1.alloc (.cells (List.replicate 32 (V8 0)).toArray 24) = W36 at *
        generalize W1.heap.size = gb at *
        refine wpAnyH_ready (rs := [9, 14]) (by kernel_rfl) (by simp) ?_
        refine AllReadyH.cons rfl (fun K hK => ?_) (AllReadyH.cons rfl (fun K hK => ?_) AllReadyH.nil)
        · rw [if_pos (by rfl)]
          go_simp
          refine (hext _ _ hV36 (Hk.out.below (hW0.trans (hH36.mono (by omega))) (by omega))).mono ?_
          rintro e W37 ⟨rfl, hb37⟩
          rw [HRA.out, HRB.out]
          refine hK.out _ _ (hH36.trans (hb37.mono hH36.size)) (fun hH37 => ?_)
          clear hK K
          try simp only [Act.put, List.getElem_toArray, List.getElem_cons_succ, List.getElem_cons_zero, List.setIfInBounds_toArray, List.set_cons_zero, List.set_cons_succ]
          have hB37 := hB36.below hb37 hB36.lt
          clear hB36
          clear hb37 hH36 hV36
          refine wpAnyH_take (i := 10) (v := ?tv38) rfl (by kernel_rfl) (by kernel_rfl) (by kernel_rfl) (fun _ _ _ h => h) (Or.inl ⟨by rfl, ?ty38⟩) hH37 ?tr38
          case ty38 => intro wq hq; go_simp; with_reducible rfl
          try simp only [Act.put, List.getElem_toArray, List.getElem_cons_succ, List.getElem_cons_zero, List.setIfInBounds_toArray, List.set_cons_zero, List.set_cons_succ]
          refine wpAnyH_take (i := 11) (v := ?tv39) rfl (by kernel_rfl) (by kernel_rfl) (by kernel_rfl) (fun _ _ _ h => h) (Or.inl ⟨by rfl, ?ty39⟩) hH37 ?tr39
          case ty39 => intro wq hq; go_simp; with_reducible rfl
          try simp only [Act.put, List.getElem_toArray, List.getElem_cons_succ, List.getElem_cons_zero, List.setIfInBounds_toArray, List.set_cons_zero, List.set_cons_succ]
          refine wpAnyH_take (i := 12) (v := ?tv40) rfl (by kernel_rfl) (by kernel_rfl) (by kernel_rfl) (fun _ _ _ h => h) (Or.inl ⟨by rfl, ?ty40⟩) hH37 ?tr40
          case ty40 => intro wq hq; go_simp; with_reducible rfl
          try simp only [Act.put, List.getElem_toArray, List.getElem_cons_succ, List.getElem_cons_zero, List.setIfInBounds_toArray, List.set_cons_zero, List.set_cons_succ]
          refine wpAnyH_take (i := 13) (v := ?tv41) rfl (by kernel_rfl) (by kernel_rfl) (by kernel_rfl) (fun _ _ _ h => h) (Or.inl ⟨by rfl, ?ty41⟩) hH37 ?tr41
          case ty41 => intro wq hq; go_simp; with_reducible rfl
          try simp only [Act.put, List.getElem_toArray, List.getElem_cons_succ, List.getElem_cons_zero, List.setIfInBounds_toArray, List.set_cons_zero, List.set_cons_succ]
          refine wpAnyH_ready (rs := [14]) (by kernel_rfl) (by simp) ?_
          refine AllReadyH.cons rfl (fun K hK => ?_) AllReadyH.nil
          · rw [if_pos (by rfl)]
            go_simp
            refine hK.out _ _ (hH37.alloc hH37.size (.cells (List.replicate 32 (V8 0)).toArray 24)) (fun hH42 => ?_)
            clear hK K
            try simp only [Act.put, List.getElem_toArray, List.getElem_cons_succ, List.getElem_cons_zero, List.setIfInBounds_toArray, List.set_cons_zero, List.set_cons_succ]
            have hA42 := Arr.new W37 24 (List.replicate 32 (V8 0))
            have hne := hB37.lt
            have hB42 := hB37.alloc (.cells (List.replicate 32 (V8 0)).toArray 24)
            clear hB37
            have hga : w0.heap.size ≤ W37.heap.size := hH37.size
            change wpAnyH _ _ _ _ _ _ _ _ (W37.alloc (.cells (List.replicate 32 (V8 0)).toArray 24))
            clear hH37
            change Below w0.heap.size w0 (W37.alloc (.cells (List.replicate 32 (V8 0)).toArray 24)) at hH42
            generalize W37.alloc (.cells (List.replicate 32 (V8 0)).toArray 24) = W42 at *
            generalize W37.heap.size = ga at *
            refine wpAnyH_ready (rs := [16]) (by kernel_rfl) (by simp) ?_
            refine AllReadyH.cons rfl (fun K hK => ?_) AllReadyH.nil
            · rw [if_pos (by rfl)]
              refine wp_store_row 24 (.tmp 3) (.tmp 25) rfl ga lra.toArray rfl rfl 24 _ hA42 lra_HI.out lra_HS.out lra_HO.out ?_
              refine hK.out _ _ (below_setRow hH42 hga _) (fun hH43 => ?_)
              clear hK K
              try simp only [Act.put, List.getElem_toArray, List.getElem_cons_succ, List.getElem_cons_zero, List.setIfInBounds_toArray, List.set_cons_zero, List.set_cons_succ]
              have hA43 := hA42.setRow lra.toArray
              have hB43 := hB42.setRow_other ga lra.toArray (by omega)
              change Arr (W42.setRow ga lra.toArray) ga 24 lra at hA43
              change wpAnyH _ _ _ _ _ _ _ _ (W42.setRow ga lra.toArray)
              change Below w0.heap.size w0 (W42.setRow ga lra.toArray) at hH43
              clear hA42 hB42 hH42
              generalize W42.setRow ga lra.toArray = W43 at *
              refine wpAnyH_ready (rs := [17]) (by kernel_rfl) (by simp) ?_
              refine AllReadyH.cons rfl (fun K hK => ?_) AllReadyH.nil
              · rw [if_pos (by rfl)]
                refine wp_store_row 24 (.tmp 4) (.tmp 26) rfl gb lrb.toArray rfl rfl 24 _ hB43 lrb_HI.out lrb_HS.out lrb_HO.out ?_
                refine hK.out _ _ (below_setRow hH43 hgb _) (fun hH44 => ?_)
                clear hK K
                try simp only [Act.put, List.getElem_toArray, List.getElem_cons_succ, List.getElem_cons_zero, List.setIfInBounds_toArray, List.set_cons_zero, List.set_cons_succ]
                have hB44 := hB43.setRow lrb.toArray
                have hA44 := hA43.setRow_other gb lrb.toArray (by omega)
                change Arr (W43.setRow gb lrb.toArray) gb 24 lrb at hB44
                change wpAnyH _ _ _ _ _ _ _ _ (W43.setRow gb lrb.toArray)
                change Below w0.heap.size w0 (W43.setRow gb lrb.toArray) at hH44
                clear hA43 hB43 hH43
                generalize W43.setRow gb lrb.toArray = W44 at *
                refine wpAnyH_take (i := 18) (v := ?tv45) rfl (by kernel_rfl) (by kernel_rfl) (by kernel_rfl) (fun _ _ _ h => h) (Or.inl ⟨by rfl, ?ty45⟩) hH44 ?tr45
                case ty45 => intro wq hq; go_simp; with_reducible rfl
                try simp only [Act.put, List.getElem_toArray, List.getElem_cons_succ, List.getElem_cons_zero, List.setIfInBounds_toArray, List.set_cons_zero, List.set_cons_succ]
                refine wpAnyH_done (by kernel_rfl) ?_ _
                simp only [List.getElem_toArray, List.getElem_cons_succ, List.getElem_cons_zero, Exit.then, Act.put, List.setIfInBounds_toArray, List.set_cons_zero, List.set_cons_succ]
                go_at_K
                have hX := hH44; have hXA := hA44; have hXB := hB44
                clear hH44 hA44 hB44
                generalize W44 = wx at *
                have xB := hW0.trans (hX.mono (by omega))
                have xR := range_below hr0 hX hAl
                have x32 := (hX.cell (p := ⟨A, 32, none⟩) hAl).trans hc32
                have x33 := (hX.cell (p := ⟨A, 33, none⟩) hAl).trans hc33
                have x34 := (hX.cell (p := ⟨A, 34, none⟩) hAl).trans hc34
                have xV := HD.out.below xB (by omega)
                have XR := Lib.hid xR
                clear hX xR
                go_wp2_with ((with_reducible refine at_ld 23 (.tmp 29) ?_); refine wpList_load_mid rfl 23 (.tmp 29) rfl A 0 rfl la _ XR.out huR.out rfl HLI.out ?_)
                refine (hextR _ xV).mono ?_
                rintro e wy ⟨rfl, hby⟩
                rw [HRA.out, HRB.out]
                have yB := xB.trans (hby.mono (by have := xB.size; omega))
                have yL := hXA.below hby hXA.lt
                have yM := hXB.below hby hXB.lt
                clear hby xB hXA hXB xV x32 x33 x34 XR
                have h6 := Lib.hid (two_vars wy 23 lra lrb)
                go_upto_region 5 with (first | ((with_reducible refine at_st 23 (.tmp 6) (.tmp 38) ?_); refine wpList_store_row rfl 23 (.tmp 6) (.tmp 38) rfl wy.heap.size lra.toArray rfl rfl 23 _ h6.out.1 lra_HIR.out lra_HS.out lra_HO.out ?_) | ((with_reducible refine at_st 23 (.tmp 7) (.tmp 39) ?_); refine wpList_store_row rfl 23 (.tmp 7) (.tmp 39) rfl (wy.heap.size + 1) lrb.toArray rfl rfl 23 _ h6.out.2.1 lrb_HIR.out lrb_HS.out lrb_HO.out ?_))
                have h7 := h6.out.2.2
                clear h6
                change Code.wp _ _ _ _ ((((wy.alloc (Z32 23)).alloc (Z32 23)).setRow wy.heap.size lra.toArray).setRow (wy.heap.size + 1) lrb.toArray)
                generalize ((((wy.alloc (Z32 23)).alloc (Z32 23)).setRow wy.heap.size lra.toArray).setRow (wy.heap.size + 1) lrb.toArray) = wz at *
                have zL := yL.below h7.2.2.1 yL.lt
                have zM := yM.below h7.2.2.1 yM.lt
                have zP := h7.1
                have zQ := h7.2.1
                have zB := yB.trans (h7.2.2.1.mono (by have := yB.size; omega))
                generalize wy.heap.size = gy at *
                clear yL yM yB h7
                have zR1 := zL.range; have zR2 := zM.range; have zR3 := zP.range; have zR4 := zQ.range
                have zl1 := zL.lt; have zl2 := zM.lt; have zl3 := zP.lt; have zl4 := zQ.lt
                refine wp_region_listed 16 [] (Below wz.heap.size wz) (by decide) (Stable.below wz) (Below.refl _ _) ?_
                simp only [List.range, List.range.loop, opsOf, List.getElem?_cons_succ, List.getElem?_cons_zero, List.drop_succ_cons, List.drop_zero]
                refine wpL_val ?v74 rfl (by rfl) (fun wq hq => ?y74) ?z74
                case y74 => go_simp; exact known_any _ (Hk.out.below (zB.trans (hq.mono (by have := zB.size; omega))) (by omega))
                try simp only [Act.put, List.setIfInBounds_toArray, List.set_cons_zero, List.set_cons_succ]
                refine wpL_val ?v75 rfl (by rfl) (fun wq hq => ?y75) ?z75
                case y75 => go_simp; with_reducible rfl
                try simp only [Act.put, List.setIfInBounds_toArray, List.set_cons_zero, List.set_cons_succ]
                refine wpL_val ?v76 rfl (by rfl) (fun wq hq => ?y76) ?z76
                case y76 => go_simp; with_reducible rfl
                try simp only [Act.put, List.setIfInBounds_toArray, List.set_cons_zero, List.set_cons_succ]
                refine wpL_val ?v77 rfl (by rfl) (fun wq hq => ?y77) ?z77
                case y77 => go_simp; with_reducible rfl
                try simp only [Act.put, List.setIfInBounds_toArray, List.set_cons_zero, List.set_cons_succ]
                refine wpL_val ?v78 rfl (by rfl) (fun wq hq => ?y78) ?z78
                case y78 => go_simp; with_reducible rfl
                try simp only [Act.put, List.setIfInBounds_toArray, List.set_cons_zero, List.set_cons_succ]
                refine wpL_val ?v79 rfl (by rfl) (fun wq hq => ?y79) ?z79
                case y79 => go_simp; with_reducible rfl
                try simp only [Act.put, List.setIfInBounds_toArray, List.set_cons_zero, List.set_cons_succ]
                refine wpL_val ?v80 rfl (by rfl) (fun wq hq => ?y80) ?z80
                case y80 => go_simp; with_reducible rfl
                try simp only [Act.put, List.setIfInBounds_toArray, List.set_cons_zero, List.set_cons_succ]
                refine wpL_val (.agg lra.toArray) rfl (by rfl) (fun wq hq => quiet_ld 24 _ rfl _ _ rfl lra _ (range_below zR1 hq zl1) hu.out rfl lra_LI.out) ?_
                try simp only [Act.put, List.setIfInBounds_toArray, List.set_cons_zero, List.set_cons_succ]
                refine wpL_val (.agg lra.toArray) rfl (by rfl) (fun wq hq => quiet_ld 23 _ rfl _ _ rfl lra _ (range_below zR3 hq zl3) huR.out rfl lra_LIR.out) ?_
                try simp only [Act.put, List.setIfInBounds_toArray, List.set_cons_zero, List.set_cons_succ]
                refine wpL_val ?v83 rfl (by rfl) (fun wq hq => ?y83) ?z83
                case y83 => go_simp; rw [eqlR ra ra hral hral _ _ HRA2.out HRA2.out, decide_eq_true rfl]; go_simp; with_reducible rfl
                try simp only [Act.put, List.setIfInBounds_toArray, List.set_cons_zero, List.set_cons_succ]
                refine wpL_val ?v84 rfl (by rfl) (fun wq hq => ?y84) ?z84
                case y84 => go_simp; with_reducible rfl
                try simp only [Act.put, List.setIfInBounds_toArray, List.set_cons_zero, List.set_cons_succ]
                refine wpL_val ?v85 rfl (by rfl) (fun wq hq => ?y85) ?z85
                case y85 => go_simp; with_reducible rfl
                try simp only [Act.put, List.setIfInBounds_toArray, List.set_cons_zero, List.set_cons_succ]
                refine wpL_val (.agg lrb.toArray) rfl (by rfl) (fun wq hq => quiet_ld 24 _ rfl _ _ rfl lrb _ (range_below zR2 hq zl2) hu.out rfl lrb_LI.out) ?_
                try simp only [Act.put, List.setIfInBounds_toArray, List.set_cons_zero, List.set_cons_succ]
                refine wpL_val (.agg lrb.toArray) rfl (by rfl) (fun wq hq => quiet_ld 23 _ rfl _ _ rfl lrb _ (range_below zR4 hq zl4) huR.out rfl lrb_LIR.out) ?_
                try simp only [Act.put, List.setIfInBounds_toArray, List.set_cons_zero, List.set_cons_succ]
                refine wpL_val ?v88 rfl (by rfl) (fun wq hq => ?y88) ?z88
                case y88 => go_simp; rw [eqlR rb rb hrbl hrbl _ _ HRB2.out HRB2.out, decide_eq_true rfl]; go_simp; with_reducible rfl
                try simp only [Act.put, List.setIfInBounds_toArray, List.set_cons_zero, List.set_cons_succ]
                refine wpL_val ?v89 rfl (by rfl) (fun wq hq => ?y89) ?z89
                case y89 => go_simp; with_reducible rfl
                try simp only [Act.put, List.setIfInBounds_toArray, List.set_cons_zero, List.set_cons_succ]
                refine wpL_nil ?_
                intro wt hwt
                go_wp2_with fail
                go_ret
                exact ⟨rfl, by (try rw [hAe]); exact zB.trans (hwt.mono (by have := zB.size; omega))⟩
        · rw [if_pos (by rfl)]
          go_simp
          refine hK.out _ _ (hH36.alloc hH36.size (.cells (List.replicate 32 (V8 0)).toArray 24)) (fun hH46 => ?_)
          clear hK K
          try simp only [Act.put, List.getElem_toArray, List.getElem_cons_succ, List.getElem_cons_zero, List.setIfInBounds_toArray, List.set_cons_zero, List.set_cons_succ]
          have hA46 := Arr.new W36 24 (List.replicate 32 (V8 0))
          have hV46 := hV36.below (below_alloc W36 (.cells (List.replicate 32 (V8 0)).toArray 24)) (Nat.le_refl _)
          clear hV36
          have hne := hB36.lt
          have hB46 := hB36.alloc (.cells (List.replicate 32 (V8 0)).toArray 24)
          clear hB36
          have hga : w0.heap.size ≤ W36.heap.size := hH36.size
          change wpAnyH _ _ _ _ _ _ _ _ (W36.alloc (.cells (List.replicate 32 (V8 0)).toArray 24))
          clear hH36
          change Below w0.heap.size w0 (W36.alloc (.cells (List.replicate 32 (V8 0)).toArray 24)) at hH46
          generalize W36.alloc (.cells (List.replicate 32 (V8 0)).toArray 24) = W46 at *
          generalize W36.heap.size = ga at *
          refine wpAnyH_ready (rs := [9]) (by kernel_rfl) (by simp) ?_
          refine AllReadyH.cons rfl (fun K hK => ?_) AllReadyH.nil
          · rw [if_pos (by rfl)]
            go_simp
            refine (hext _ _ hV46 (Hk.out.below (hW0.trans (hH46.mono (by omega))) (by omega))).mono ?_
            rintro e W47 ⟨rfl, hb47⟩
            rw [HRA.out, HRB.out]
            refine hK.out _ _ (hH46.trans (hb47.mono hH46.size)) (fun hH47 => ?_)
            clear hK K
            try simp only [Act.put, List.getElem_toArray, List.getElem_cons_succ, List.getElem_cons_zero, List.setIfInBounds_toArray, List.set_cons_zero, List.set_cons_succ]
            have hA47 := hA46.below hb47 hA46.lt
            clear hA46
            have hB47 := hB46.below hb47 hB46.lt
            clear hB46
            clear hb47 hH46 hV46
            refine wpAnyH_take (i := 10) (v := ?tv48) rfl (by kernel_rfl) (by kernel_rfl) (by kernel_rfl) (fun _ _ _ h => h) (Or.inl ⟨by rfl, ?ty48⟩) hH47 ?tr48
            case ty48 => intro wq hq; go_simp; with_reducible rfl
            try simp only [Act.put, List.getElem_toArray, List.getElem_cons_succ, List.getElem_cons_zero, List.setIfInBounds_toArray, List.set_cons_zero, List.set_cons_succ]
            refine wpAnyH_take (i := 11) (v := ?tv49) rfl (by kernel_rfl) (by kernel_rfl) (by kernel_rfl) (fun _ _ _ h => h) (Or.inl ⟨by rfl, ?ty49⟩) hH47 ?tr49
            case ty49 => intro wq hq; go_simp; with_reducible rfl
            try simp only [Act.put, List.getElem_toArray, List.getElem_cons_succ, List.getElem_cons_zero, List.setIfInBounds_toArray, List.set_cons_zero, List.set_cons_succ]
            refine wpAnyH_take (i := 12) (v := ?tv50) rfl (by kernel_rfl) (by kernel_rfl) (by kernel_rfl) (fun _ _ _ h => h) (Or.inl ⟨by rfl, ?ty50⟩) hH47 ?tr50
            case ty50 => intro wq hq; go_simp; with_reducible rfl
            try simp only [Act.put, List.getElem_toArray, List.getElem_cons_succ, List.getElem_cons_zero, List.setIfInBounds_toArray, List.set_cons_zero, List.set_cons_succ]
            refine wpAnyH_take (i := 13) (v := ?tv51) rfl (by kernel_rfl) (by kernel_rfl) (by kernel_rfl) (fun _ _ _ h => h) (Or.inl ⟨by rfl, ?ty51⟩) hH47 ?tr51
            case ty51 => intro wq hq; go_simp; with_reducible rfl
            try simp only [Act.put, List.getElem_toArray, List.getElem_cons_succ, List.getElem_cons_zero, List.setIfInBounds_toArray, List.set_cons_zero, List.set_cons_succ]
            refine wpAnyH_ready (rs := [16]) (by kernel_rfl) (by simp) ?_
            refine AllReadyH.cons rfl (fun K hK => ?_) AllReadyH.nil
            · rw [if_pos (by rfl)]
              refine wp_store_row 24 (.tmp 3) (.tmp 25) rfl ga lra.toArray rfl rfl 24 _ hA47 lra_HI.out lra_HS.out lra_HO.out ?_
              refine hK.out _ _ (below_setRow hH47 hga _) (fun hH52 => ?_)
              clear hK K
              try simp only [Act.put, List.getElem_toArray, List.getElem_cons_succ, List.getElem_cons_zero, List.setIfInBounds_toArray, List.set_cons_zero, List.set_cons_succ]
              have hA52 := hA47.setRow lra.toArray
              have hB52 := hB47.setRow_other ga lra.toArray (by omega)
              change Arr (W47.setRow ga lra.toArray) ga 24 lra at hA52
              change wpAnyH _ _ _ _ _ _ _ _ (W47.setRow ga lra.toArray)
              change Below w0.heap.size w0 (W47.setRow ga lra.toArray) at hH52
              clear hA47 hB47 hH47
              generalize W47.setRow ga lra.toArray = W52 at *
              refine wpAnyH_ready (rs := [17]) (by kernel_rfl) (by simp) ?_
              refine AllReadyH.cons rfl (fun K hK => ?_) AllReadyH.nil
              · rw [if_pos (by rfl)]
                refine wp_store_row 24 (.tmp 4) (.tmp 26) rfl gb lrb.toArray rfl rfl 24 _ hB52 lrb_HI.out lrb_HS.out lrb_HO.out ?_
                refine hK.out _ _ (below_setRow hH52 hgb _) (fun hH53 => ?_)
                clear hK K
                try simp only [Act.put, List.getElem_toArray, List.getElem_cons_succ, List.getElem_cons_zero, List.setIfInBounds_toArray, List.set_cons_zero, List.set_cons_succ]
                have hB53 := hB52.setRow lrb.toArray
                have hA53 := hA52.setRow_other gb lrb.toArray (by omega)
                change Arr (W52.setRow gb lrb.toArray) gb 24 lrb at hB53
                change wpAnyH _ _ _ _ _ _ _ _ (W52.setRow gb lrb.toArray)
                change Below w0.heap.size w0 (W52.setRow gb lrb.toArray) at hH53
                clear hA52 hB52 hH52
                generalize W52.setRow gb lrb.toArray = W53 at *
                refine wpAnyH_take (i := 18) (v := ?tv54) rfl (by kernel_rfl) (by kernel_rfl) (by kernel_rfl) (fun _ _ _ h => h) (Or.inl ⟨by rfl, ?ty54⟩) hH53 ?tr54
                case ty54 => intro wq hq; go_simp; with_reducible rfl
                try simp only [Act.put, List.getElem_toArray, List.getElem_cons_succ, List.getElem_cons_zero, List.setIfInBounds_toArray, List.set_cons_zero, List.set_cons_succ]
                refine wpAnyH_done (by kernel_rfl) ?_ _
                simp only [List.getElem_toArray, List.getElem_cons_succ, List.getElem_cons_zero, Exit.then, Act.put, List.setIfInBounds_toArray, List.set_cons_zero, List.set_cons_succ]
                go_at_K
                have hX := hH53; have hXA := hA53; have hXB := hB53
                clear hH53 hA53 hB53
                generalize W53 = wx at *
                have xB := hW0.trans (hX.mono (by omega))
                have xR := range_below hr0 hX hAl
                have x32 := (hX.cell (p := ⟨A, 32, none⟩) hAl).trans hc32
                have x33 := (hX.cell (p := ⟨A, 33, none⟩) hAl).trans hc33
                have x34 := (hX.cell (p := ⟨A, 34, none⟩) hAl).trans hc34
                have xV := HD.out.below xB (by omega)
                have XR := Lib.hid xR
                clear hX xR
                go_wp2_with ((with_reducible refine at_ld 23 (.tmp 29) ?_); refine wpList_load_mid rfl 23 (.tmp 29) rfl A 0 rfl la _ XR.out huR.out rfl HLI.out ?_)
                refine (hextR _ xV).mono ?_
                rintro e wy ⟨rfl, hby⟩
                rw [HRA.out, HRB.out]
                have yB := xB.trans (hby.mono (by have := xB.size; omega))
                have yL := hXA.below hby hXA.lt
                have yM := hXB.below hby hXB.lt
                clear hby xB hXA hXB xV x32 x33 x34 XR
                have h6 := Lib.hid (two_vars wy 23 lra lrb)
                go_upto_region 5 with (first | ((with_reducible refine at_st 23 (.tmp 6) (.tmp 38) ?_); refine wpList_store_row rfl 23 (.tmp 6) (.tmp 38) rfl wy.heap.size lra.toArray rfl rfl 23 _ h6.out.1 lra_HIR.out lra_HS.out lra_HO.out ?_) | ((with_reducible refine at_st 23 (.tmp 7) (.tmp 39) ?_); refine wpList_store_row rfl 23 (.tmp 7) (.tmp 39) rfl (wy.heap.size + 1) lrb.toArray rfl rfl 23 _ h6.out.2.1 lrb_HIR.out lrb_HS.out lrb_HO.out ?_))
                have h7 := h6.out.2.2
                clear h6
                change Code.wp _ _ _ _ ((((wy.alloc (Z32 23)).alloc (Z32 23)).setRow wy.heap.size lra.toArray).setRow (wy.heap.size + 1) lrb.toArray)
                generalize ((((wy.alloc (Z32 23)).alloc (Z32 23)).setRow wy.heap.size lra.toArray).setRow (wy.heap.size + 1) lrb.toArray) = wz at *
                have zL := yL.below h7.2.2.1 yL.lt
                have zM := yM.below h7.2.2.1 yM.lt
                have zP := h7.1
                have zQ := h7.2.1
                have zB := yB.trans (h7.2.2.1.mono (by have := yB.size; omega))
                generalize wy.heap.size = gy at *
                clear yL yM yB h7
                have zR1 := zL.range; have zR2 := zM.range; have zR3 := zP.range; have zR4 := zQ.range
                have zl1 := zL.lt; have zl2 := zM.lt; have zl3 := zP.lt; have zl4 := zQ.lt
                refine wp_region_listed 16 [] (Below wz.heap.size wz) (by decide) (Stable.below wz) (Below.refl _ _) ?_
                simp only [List.range, List.range.loop, opsOf, List.getElem?_cons_succ, List.getElem?_cons_zero, List.drop_succ_cons, List.drop_zero]
                refine wpL_val ?v92 rfl (by rfl) (fun wq hq => ?y92) ?z92
                case y92 => go_simp; exact known_any _ (Hk.out.below (zB.trans (hq.mono (by have := zB.size; omega))) (by omega))
                try simp only [Act.put, List.setIfInBounds_toArray, List.set_cons_zero, List.set_cons_succ]
                refine wpL_val ?v93 rfl (by rfl) (fun wq hq => ?y93) ?z93
                case y93 => go_simp; with_reducible rfl
                try simp only [Act.put, List.setIfInBounds_toArray, List.set_cons_zero, List.set_cons_succ]
                refine wpL_val ?v94 rfl (by rfl) (fun wq hq => ?y94) ?z94
                case y94 => go_simp; with_reducible rfl
                try simp only [Act.put, List.setIfInBounds_toArray, List.set_cons_zero, List.set_cons_succ]
                refine wpL_val ?v95 rfl (by rfl) (fun wq hq => ?y95) ?z95
                case y95 => go_simp; with_reducible rfl
                try simp only [Act.put, List.setIfInBounds_toArray, List.set_cons_zero, List.set_cons_succ]
                refine wpL_val ?v96 rfl (by rfl) (fun wq hq => ?y96) ?z96
                case y96 => go_simp; with_reducible rfl
                try simp only [Act.put, List.setIfInBounds_toArray, List.set_cons_zero, List.set_cons_succ]
                refine wpL_val ?v97 rfl (by rfl) (fun wq hq => ?y97) ?z97
                case y97 => go_simp; with_reducible rfl
                try simp only [Act.put, List.setIfInBounds_toArray, List.set_cons_zero, List.set_cons_succ]
                refine wpL_val ?v98 rfl (by rfl) (fun wq hq => ?y98) ?z98
                case y98 => go_simp; with_reducible rfl
                try simp only [Act.put, List.setIfInBounds_toArray, List.set_cons_zero, List.set_cons_succ]
                refine wpL_val (.agg lra.toArray) rfl (by rfl) (fun wq hq => quiet_ld 24 _ rfl _ _ rfl lra _ (range_below zR1 hq zl1) hu.out rfl lra_LI.out) ?_
                try simp only [Act.put, List.setIfInBounds_toArray, List.set_cons_zero, List.set_cons_succ]
                refine wpL_val (.agg lra.toArray) rfl (by rfl) (fun wq hq => quiet_ld 23 _ rfl _ _ rfl lra _ (range_below zR3 hq zl3) huR.out rfl lra_LIR.out) ?_
                try simp only [Act.put, List.setIfInBounds_toArray, List.set_cons_zero, List.set_cons_succ]
                refine wpL_val ?v101 rfl (by rfl) (fun wq hq => ?y101) ?z101
                case y101 => go_simp; rw [eqlR ra ra hral hral _ _ HRA2.out HRA2.out, decide_eq_true rfl]; go_simp; with_reducible rfl
                try simp only [Act.put, List.setIfInBounds_toArray, List.set_cons_zero, List.set_cons_succ]
                refine wpL_val ?v102 rfl (by rfl) (fun wq hq => ?y102) ?z102
                case y102 => go_simp; with_reducible rfl
                try simp only [Act.put, List.setIfInBounds_toArray, List.set_cons_zero, List.set_cons_succ]
                refine wpL_val ?v103 rfl (by rfl) (fun wq hq => ?y103) ?z103
                case y103 => go_simp; with_reducible rfl
                try simp only [Act.put, List.setIfInBounds_toArray, List.set_cons_zero, List.set_cons_succ]
                refine wpL_val (.agg lrb.toArray) rfl (by rfl) (fun wq hq => quiet_ld 24 _ rfl _ _ rfl lrb _ (range_below zR2 hq zl2) hu.out rfl lrb_LI.out) ?_
                try simp only [Act.put, List.setIfInBounds_toArray, List.set_cons_zero, List.set_cons_succ]
                refine wpL_val (.agg lrb.toArray) rfl (by rfl) (fun wq hq => quiet_ld 23 _ rfl _ _ rfl lrb _ (range_below zR4 hq zl4) huR.out rfl lrb_LIR.out) ?_
                try simp only [Act.put, List.setIfInBounds_toArray, List.set_cons_zero, List.set_cons_succ]
                refine wpL_val ?v106 rfl (by rfl) (fun wq hq => ?y106) ?z106
                case y106 => go_simp; rw [eqlR rb rb hrbl hrbl _ _ HRB2.out HRB2.out, decide_eq_true rfl]; go_simp; with_reducible rfl
                try simp only [Act.put, List.setIfInBounds_toArray, List.set_cons_zero, List.set_cons_succ]
                refine wpL_val ?v107 rfl (by rfl) (fun wq hq => ?y107) ?z107
                case y107 => go_simp; with_reducible rfl
                try simp only [Act.put, List.setIfInBounds_toArray, List.set_cons_zero, List.set_cons_succ]
                refine wpL_nil ?_
                intro wt hwt
                go_wp2_with fail
                go_ret
                exact ⟨rfl, by (try rw [hAe]); exact zB.trans (hwt.mono (by have := zB.size; omega))⟩
    · rw [if_pos (by rfl)]
      go_simp
      refine hK.out _ _ (hH0.alloc hH0.size (.cells (List.replicate 32 (V8 0)).toArray 24)) (fun hH55 => ?_)
      clear hK K
      try simp only [Act.put, List.getElem_toArray, List.getElem_cons_succ, List.getElem_cons_zero, List.setIfInBounds_toArray, List.set_cons_zero, List.set_cons_succ]
      have hA55 := Arr.new W0 24 (List.replicate 32 (V8 0))
      have hga : w0.heap.size ≤ W0.heap.size := hH0.size
      change wpAnyH _ _ _ _ _ _ _ _ (W0.alloc (.cells (List.replicate 32 (V8 0)).toArray 24))
      clear hH0
      change Below w0.heap.size w0 (W0.alloc (.cells (List.replicate 32 (V8 0)).toArray 24)) at hH55
      generalize W0.alloc (.cells (List.replicate 32 (V8 0)).toArray 24) = W55 at *
      generalize W0.heap.size = ga at *
      refine wpAnyH_ready (rs := [8, 15]) (by kernel_rfl) (by simp) ?_
      refine AllReadyH.cons rfl (fun K hK => ?_) (AllReadyH.cons rfl (fun K hK => ?_) AllReadyH.nil)
      · rw [if_pos (by rfl)]
        go_simp
        refine (hown _ (HD.out.below (hW0.trans (hH55.mono (by omega))) (by omega))).mono ?_
        rintro e W56 ⟨⟨v4, rfl, hV56⟩, hb56⟩
        refine hK.out _ _ (hH55.trans (hb56.mono hH55.size)) (fun hH56 => ?_)
        clear hK K
        try simp only [Act.put, List.getElem_toArray, List.getElem_cons_succ, List.getElem_cons_zero, List.setIfInBounds_toArray, List.set_cons_zero, List.set_cons_succ]
        have hA56 := hA55.below hb56 hA55.lt
        clear hA55
        clear hb56 hH55
        refine wpAnyH_ready (rs := [9, 15]) (by kernel_rfl) (by simp) ?_
        refine AllReadyH.cons rfl (fun K hK => ?_) (AllReadyH.cons rfl (fun K hK => ?_) AllReadyH.nil)
        · rw [if_pos (by rfl)]
          go_simp
          refine (hext _ _ hV56 (Hk.out.below (hW0.trans (hH56.mono (by omega))) (by omega))).mono ?_
          rintro e W57 ⟨rfl, hb57⟩
          rw [HRA.out, HRB.out]
          refine hK.out _ _ (hH56.trans (hb57.mono hH56.size)) (fun hH57 => ?_)
          clear hK K
          try simp only [Act.put, List.getElem_toArray, List.getElem_cons_succ, List.getElem_cons_zero, List.setIfInBounds_toArray, List.set_cons_zero, List.set_cons_succ]
          have hA57 := hA56.below hb57 hA56.lt
          clear hA56
          clear hb57 hH56 hV56
          refine wpAnyH_take (i := 10) (v := ?tv58) rfl (by kernel_rfl) (by kernel_rfl) (by kernel_rfl) (fun _ _ _ h => h) (Or.inl ⟨by rfl, ?ty58⟩) hH57 ?tr58
          case ty58 => intro wq hq; go_simp; with_reducible rfl
          try simp only [Act.put, List.getElem_toArray, List.getElem_cons_succ, List.getElem_cons_zero, List.setIfInBounds_toArray, List.set_cons_zero, List.set_cons_succ]
          refine wpAnyH_take (i := 11) (v := ?tv59) rfl (by kernel_rfl) (by kernel_rfl) (by kernel_rfl) (fun _ _ _ h => h) (Or.inl ⟨by rfl, ?ty59⟩) hH57 ?tr59
          case ty59 => intro wq hq; go_simp; with_reducible rfl
          try simp only [Act.put, List.getElem_toArray, List.getElem_cons_succ, List.getElem_cons_zero, List.setIfInBounds_toArray, List.set_cons_zero, List.set_cons_succ]
          refine wpAnyH_take (i := 12) (v := ?tv60) rfl (by kernel_rfl) (by kernel_rfl) (by kernel_rfl) (fun _ _ _ h => h) (Or.inl ⟨by rfl, ?ty60⟩) hH57 ?tr60
          case ty60 => intro wq hq; go_simp; with_reducible rfl
          try simp only [Act.put, List.getElem_toArray, List.getElem_cons_succ, List.getElem_cons_zero, List.setIfInBounds_toArray, List.set_cons_zero, List.set_cons_succ]
          refine wpAnyH_take (i := 13) (v := ?tv61) rfl (by kernel_rfl) (by kernel_rfl) (by kernel_rfl) (fun _ _ _ h => h) (Or.inl ⟨by rfl, ?ty61⟩) hH57 ?tr61
          case ty61 => intro wq hq; go_simp; with_reducible rfl
          try simp only [Act.put, List.getElem_toArray, List.getElem_cons_succ, List.getElem_cons_zero, List.setIfInBounds_toArray, List.set_cons_zero, List.set_cons_succ]
          refine wpAnyH_ready (rs := [15]) (by kernel_rfl) (by simp) ?_
          refine AllReadyH.cons rfl (fun K hK => ?_) AllReadyH.nil
          · rw [if_pos (by rfl)]
            go_simp
            refine hK.out _ _ (hH57.alloc hH57.size (.cells (List.replicate 32 (V8 0)).toArray 24)) (fun hH62 => ?_)
            clear hK K
            try simp only [Act.put, List.getElem_toArray, List.getElem_cons_succ, List.getElem_cons_zero, List.setIfInBounds_toArray, List.set_cons_zero, List.set_cons_succ]
            have hB62 := Arr.new W57 24 (List.replicate 32 (V8 0))
            have hne := hA57.lt
            have hA62 := hA57.alloc (.cells (List.replicate 32 (V8 0)).toArray 24)
            clear hA57
            have hgb : w0.heap.size ≤ W57.heap.size := hH57.size
            change wpAnyH _ _ _ _ _ _ _ _ (W57.alloc (.cells (List.replicate 32 (V8 0)).toArray 24))
            clear hH57
            change Below w0.heap.size w0 (W57.alloc (.cells (List.replicate 32 (V8 0)).toArray 24)) at hH62
            generalize W57.alloc (.cells (List.replicate 32 (V8 0)).toArray 24) = W62 at *
            generalize W57.heap.size = gb at *
            refine wpAnyH_ready (rs := [16]) (by kernel_rfl) (by simp) ?_
            refine AllReadyH.cons rfl (fun K hK => ?_) AllReadyH.nil
            · rw [if_pos (by rfl)]
              refine wp_store_row 24 (.tmp 3) (.tmp 25) rfl ga lra.toArray rfl rfl 24 _ hA62 lra_HI.out lra_HS.out lra_HO.out ?_
              refine hK.out _ _ (below_setRow hH62 hga _) (fun hH63 => ?_)
              clear hK K
              try simp only [Act.put, List.getElem_toArray, List.getElem_cons_succ, List.getElem_cons_zero, List.setIfInBounds_toArray, List.set_cons_zero, List.set_cons_succ]
              have hA63 := hA62.setRow lra.toArray
              have hB63 := hB62.setRow_other ga lra.toArray (by omega)
              change Arr (W62.setRow ga lra.toArray) ga 24 lra at hA63
              change wpAnyH _ _ _ _ _ _ _ _ (W62.setRow ga lra.toArray)
              change Below w0.heap.size w0 (W62.setRow ga lra.toArray) at hH63
              clear hA62 hB62 hH62
              generalize W62.setRow ga lra.toArray = W63 at *
              refine wpAnyH_ready (rs := [17]) (by kernel_rfl) (by simp) ?_
              refine AllReadyH.cons rfl (fun K hK => ?_) AllReadyH.nil
              · rw [if_pos (by rfl)]
                refine wp_store_row 24 (.tmp 4) (.tmp 26) rfl gb lrb.toArray rfl rfl 24 _ hB63 lrb_HI.out lrb_HS.out lrb_HO.out ?_
                refine hK.out _ _ (below_setRow hH63 hgb _) (fun hH64 => ?_)
                clear hK K
                try simp only [Act.put, List.getElem_toArray, List.getElem_cons_succ, List.getElem_cons_zero, List.setIfInBounds_toArray, List.set_cons_zero, List.set_cons_succ]
                have hB64 := hB63.setRow lrb.toArray
                have hA64 := hA63.setRow_other gb lrb.toArray (by omega)
                change Arr (W63.setRow gb lrb.toArray) gb 24 lrb at hB64
                change wpAnyH _ _ _ _ _ _ _ _ (W63.setRow gb lrb.toArray)
                change Below w0.heap.size w0 (W63.setRow gb lrb.toArray) at hH64
                clear hA63 hB63 hH63
                generalize W63.setRow gb lrb.toArray = W64 at *
                refine wpAnyH_take (i := 18) (v := ?tv65) rfl (by kernel_rfl) (by kernel_rfl) (by kernel_rfl) (fun _ _ _ h => h) (Or.inl ⟨by rfl, ?ty65⟩) hH64 ?tr65
                case ty65 => intro wq hq; go_simp; with_reducible rfl
                try simp only [Act.put, List.getElem_toArray, List.getElem_cons_succ, List.getElem_cons_zero, List.setIfInBounds_toArray, List.set_cons_zero, List.set_cons_succ]
                refine wpAnyH_done (by kernel_rfl) ?_ _
                simp only [List.getElem_toArray, List.getElem_cons_succ, List.getElem_cons_zero, Exit.then, Act.put, List.setIfInBounds_toArray, List.set_cons_zero, List.set_cons_succ]
                go_at_K
                have hX := hH64; have hXA := hA64; have hXB := hB64
                clear hH64 hA64 hB64
                generalize W64 = wx at *
                have xB := hW0.trans (hX.mono (by omega))
                have xR := range_below hr0 hX hAl
                have x32 := (hX.cell (p := ⟨A, 32, none⟩) hAl).trans hc32
                have x33 := (hX.cell (p := ⟨A, 33, none⟩) hAl).trans hc33
                have x34 := (hX.cell (p := ⟨A, 34, none⟩) hAl).trans hc34
                have xV := HD.out.below xB (by omega)
                have XR := Lib.hid xR
                clear hX xR
                go_wp2_with ((with_reducible refine at_ld 23 (.tmp 29) ?_); refine wpList_load_mid rfl 23 (.tmp 29) rfl A 0 rfl la _ XR.out huR.out rfl HLI.out ?_)
                refine (hextR _ xV).mono ?_
                rintro e wy ⟨rfl, hby⟩
                rw [HRA.out, HRB.out]
                have yB := xB.trans (hby.mono (by have := xB.size; omega))
                have yL := hXA.below hby hXA.lt
                have yM := hXB.below hby hXB.lt
                clear hby xB hXA hXB xV x32 x33 x34 XR
                have h6 := Lib.hid (two_vars wy 23 lra lrb)
                go_upto_region 5 with (first | ((with_reducible refine at_st 23 (.tmp 6) (.tmp 38) ?_); refine wpList_store_row rfl 23 (.tmp 6) (.tmp 38) rfl wy.heap.size lra.toArray rfl rfl 23 _ h6.out.1 lra_HIR.out lra_HS.out lra_HO.out ?_) | ((with_reducible refine at_st 23 (.tmp 7) (.tmp 39) ?_); refine wpList_store_row rfl 23 (.tmp 7) (.tmp 39) rfl (wy.heap.size + 1) lrb.toArray rfl rfl 23 _ h6.out.2.1 lrb_HIR.out lrb_HS.out lrb_HO.out ?_))
                have h7 := h6.out.2.2
                clear h6
                change Code.wp _ _ _ _ ((((wy.alloc (Z32 23)).alloc (Z32 23)).setRow wy.heap.size lra.toArray).setRow (wy.heap.size + 1) lrb.toArray)
                generalize ((((wy.alloc (Z32 23)).alloc (Z32 23)).setRow wy.heap.size lra.toArray).setRow (wy.heap.size + 1) lrb.toArray) = wz at *
                have zL := yL.below h7.2.2.1 yL.lt
                have zM := yM.below h7.2.2.1 yM.lt
                have zP := h7.1
                have zQ := h7.2.1
                have zB := yB.trans (h7.2.2.1.mono (by have := yB.size; omega))
                generalize wy.heap.size = gy at *
                clear yL yM yB h7
                have zR1 := zL.range; have zR2 := zM.range; have zR3 := zP.range; have zR4 := zQ.range
                have zl1 := zL.lt; have zl2 := zM.lt; have zl3 := zP.lt; have zl4 := zQ.lt
                refine wp_region_listed 16 [] (Below wz.heap.size wz) (by decide) (Stable.below wz) (Below.refl _ _) ?_
                simp only [List.range, List.range.loop, opsOf, List.getElem?_cons_succ, List.getElem?_cons_zero, List.drop_succ_cons, List.drop_zero]
                refine wpL_val ?v110 rfl (by rfl) (fun wq hq => ?y110) ?z110
                case y110 => go_simp; exact known_any _ (Hk.out.below (zB.trans (hq.mono (by have := zB.size; omega))) (by omega))
                try simp only [Act.put, List.setIfInBounds_toArray, List.set_cons_zero, List.set_cons_succ]
                refine wpL_val ?v111 rfl (by rfl) (fun wq hq => ?y111) ?z111
                case y111 => go_simp; with_reducible rfl
                try simp only [Act.put, List.setIfInBounds_toArray, List.set_cons_zero, List.set_cons_succ]
                refine wpL_val ?v112 rfl (by rfl) (fun wq hq => ?y112) ?z112
                case y112 => go_simp; with_reducible rfl
                try simp only [Act.put, List.setIfInBounds_toArray, List.set_cons_zero, List.set_cons_succ]
                refine wpL_val ?v113 rfl (by rfl) (fun wq hq => ?y113) ?z113
                case y113 => go_simp; with_reducible rfl
                try simp only [Act.put, List.setIfInBounds_toArray, List.set_cons_zero, List.set_cons_succ]
                refine wpL_val ?v114 rfl (by rfl) (fun wq hq => ?y114) ?z114
                case y114 => go_simp; with_reducible rfl
                try simp only [Act.put, List.setIfInBounds_toArray, List.set_cons_zero, List.set_cons_succ]
                refine wpL_val ?v115 rfl (by rfl) (fun wq hq => ?y115) ?z115
                case y115 => go_simp; with_reducible rfl
                try simp only [Act.put, List.setIfInBounds_toArray, List.set_cons_zero, List.set_cons_succ]
                refine wpL_val ?v116 rfl (by rfl) (fun wq hq => ?y116) ?z116
                case y116 => go_simp; with_reducible rfl
                try simp only [Act.put, List.setIfInBounds_toArray, List.set_cons_zero, List.set_cons_succ]
                refine wpL_val (.agg lra.toArray) rfl (by rfl) (fun wq hq => quiet_ld 24 _ rfl _ _ rfl lra _ (range_below zR1 hq zl1) hu.out rfl lra_LI.out) ?_
                try simp only [Act.put, List.setIfInBounds_toArray, List.set_cons_zero, List.set_cons_succ]
                refine wpL_val (.agg lra.toArray) rfl (by rfl) (fun wq hq => quiet_ld 23 _ rfl _ _ rfl lra _ (range_below zR3 hq zl3) huR.out rfl lra_LIR.out) ?_
                try simp only [Act.put, List.setIfInBounds_toArray, List.set_cons_zero, List.set_cons_succ]
                refine wpL_val ?v119 rfl (by rfl) (fun wq hq => ?y119) ?z119
                case y119 => go_simp; rw [eqlR ra ra hral hral _ _ HRA2.out HRA2.out, decide_eq_true rfl]; go_simp; with_reducible rfl
                try simp only [Act.put, List.setIfInBounds_toArray, List.set_cons_zero, List.set_cons_succ]
                refine wpL_val ?v120 rfl (by rfl) (fun wq hq => ?y120) ?z120
                case y120 => go_simp; with_reducible rfl
                try simp only [Act.put, List.setIfInBounds_toArray, List.set_cons_zero, List.set_cons_succ]
                refine wpL_val ?v121 rfl (by rfl) (fun wq hq => ?y121) ?z121
                case y121 => go_simp; with_reducible rfl
                try simp only [Act.put, List.setIfInBounds_toArray, List.set_cons_zero, List.set_cons_succ]
                refine wpL_val (.agg lrb.toArray) rfl (by rfl) (fun wq hq => quiet_ld 24 _ rfl _ _ rfl lrb _ (range_below zR2 hq zl2) hu.out rfl lrb_LI.out) ?_
                try simp only [Act.put, List.setIfInBounds_toArray, List.set_cons_zero, List.set_cons_succ]
                refine wpL_val (.agg lrb.toArray) rfl (by rfl) (fun wq hq => quiet_ld 23 _ rfl _ _ rfl lrb _ (range_below zR4 hq zl4) huR.out rfl lrb_LIR.out) ?_
                try simp only [Act.put, List.setIfInBounds_toArray, List.set_cons_zero, List.set_cons_succ]
                refine wpL_val ?v124 rfl (by rfl) (fun wq hq => ?y124) ?z124
                case y124 => go_simp; rw [eqlR rb rb hrbl hrbl _ _ HRB2.out HRB2.out, decide_eq_true rfl]; go_simp; with_reducible rfl
                try simp only [Act.put, List.setIfInBounds_toArray, List.set_cons_zero, List.set_cons_succ]
                refine wpL_val ?v125 rfl (by rfl) (fun wq hq => ?y125) ?z125
                case y125 => go_simp; with_reducible rfl
                try simp only [Act.put, List.setIfInBounds_toArray, List.set_cons_zero, List.set_cons_succ]
                refine wpL_nil ?_
                intro wt hwt
                go_wp2_with fail
                go_ret
                exact ⟨rfl, by (try rw [hAe]); exact zB.trans (hwt.mono (by have := zB.size; omega))⟩
        · rw [if_pos (by rfl)]
          go_simp
          refine hK.out _ _ (hH56.alloc hH56.size (.cells (List.replicate 32 (V8 0)).toArray 24)) (fun hH66 => ?_)
          clear hK K
          try simp only [Act.put, List.getElem_toArray, List.getElem_cons_succ, List.getElem_cons_zero, List.setIfInBounds_toArray, List.set_cons_zero, List.set_cons_succ]
          have hB66 := Arr.new W56 24 (List.replicate 32 (V8 0))
          have hV66 := hV56.below (below_alloc W56 (.cells (List.replicate 32 (V8 0)).toArray 24)) (Nat.le_refl _)
          clear hV56
          have hne := hA56.lt
          have hA66 := hA56.alloc (.cells (List.replicate 32 (V8 0)).toArray 24)
          clear hA56
          have hgb : w0.heap.size ≤ W56.heap.size := hH56.size
          change wpAnyH _ _ _ _ _ _ _ _ (W56.alloc (.cells (List.replicate 32 (V8 0)).toArray 24))
          clear hH56
          change Below w0.heap.size w0 (W56.alloc (.cells (List.replicate 32 (V8 0)).toArray 24)) at hH66
          generalize W56.alloc (.cells (List.replicate 32 (V8 0)).toArray 24) = W66 at *
          generalize W56.heap.size = gb at *
          refine wpAnyH_ready (rs := [9]) (by kernel_rfl) (by simp) ?_
          refine AllReadyH.cons rfl (fun K hK => ?_) AllReadyH.nil
          · rw [if_pos (by rfl)]
            go_simp
            refine (hext _ _ hV66 (Hk.out.below (hW0.trans (hH66.mono (by omega))) (by omega))).mono ?_
            rintro e W67 ⟨rfl, hb67⟩
            rw [HRA.out, HRB.out]
            refine hK.out _ _ (hH66.trans (hb67.mono hH66.size)) (fun hH67 => ?_)
            clear hK K
            try simp only [Act.put, List.getElem_toArray, List.getElem_cons_succ, List.getElem_cons_zero, List.setIfInBounds_toArray, List.set_cons_zero, List.set_cons_succ]
            have hA67 := hA66.below hb67 hA66.lt
            clear hA66
            have hB67 := hB66.below hb67 hB66.lt
            clear hB66
            clear hb67 hH66 hV66
            refine wpAnyH_take (i := 10) (v := ?tv68) rfl (by kernel_rfl) (by kernel_rfl) (by kernel_rfl) (fun _ _ _ h => h) (Or.inl ⟨by rfl, ?ty68⟩) hH67 ?tr68
            case ty68 => intro wq hq; go_simp; with_reducible rfl
            try simp only [Act.put, List.getElem_toArray, List.getElem_cons_succ, List.getElem_cons_zero, List.setIfInBounds_toArray, List.set_cons_zero, List.set_cons_succ]
            refine wpAnyH_take (i := 11) (v := ?tv69) rfl (by kernel_rfl) (by kernel_rfl) (by kernel_rfl) (fun _ _ _ h => h) (Or.inl ⟨by rfl, ?ty69⟩) hH67 ?tr69
            case ty69 => intro wq hq; go_simp; with_reducible rfl
            try simp only [Act.put, List.getElem_toArray, List.getElem_cons_succ, List.getElem_cons_zero, List.setIfInBounds_toArray, List.set_cons_zero, List.set_cons_succ]
            refine wpAnyH_take (i := 12) (v := ?tv70) rfl (by kernel_rfl) (by kernel_rfl) (by kernel_rfl) (fun _ _ _ h => h) (Or.inl ⟨by rfl, ?ty70⟩) hH67 ?tr70
            case ty70 => intro wq hq; go_simp; with_reducible rfl
            try simp only [Act.put, List.getElem_toArray, List.getElem_cons_succ, List.getElem_cons_zero, List.setIfInBounds_toArray, List.set_cons_zero, List.set_cons_succ]
            refine wpAnyH_take (i := 13) (v := ?tv71) rfl (by kernel_rfl) (by kernel_rfl) (by kernel_rfl) (fun _ _ _ h => h) (Or.inl ⟨by rfl, ?ty71⟩) hH67 ?tr71
            case ty71 => intro wq hq; go_simp; with_reducible rfl
            try simp only [Act.put, List.getElem_toArray, List.getElem_cons_succ, List.getElem_cons_zero, List.setIfInBounds_toArray, List.set_cons_zero, List.set_cons_succ]
            refine wpAnyH_ready (rs := [16]) (by kernel_rfl) (by simp) ?_
            refine AllReadyH.cons rfl (fun K hK => ?_) AllReadyH.nil
            · rw [if_pos (by rfl)]
              refine wp_store_row 24 (.tmp 3) (.tmp 25) rfl ga lra.toArray rfl rfl 24 _ hA67 lra_HI.out lra_HS.out lra_HO.out ?_
              refine hK.out _ _ (below_setRow hH67 hga _) (fun hH72 => ?_)
              clear hK K
              try simp only [Act.put, List.getElem_toArray, List.getElem_cons_succ, List.getElem_cons_zero, List.setIfInBounds_toArray, List.set_cons_zero, List.set_cons_succ]
              have hA72 := hA67.setRow lra.toArray
              have hB72 := hB67.setRow_other ga lra.toArray (by omega)
              change Arr (W67.setRow ga lra.toArray) ga 24 lra at hA72
              change wpAnyH _ _ _ _ _ _ _ _ (W67.setRow ga lra.toArray)
              change Below w0.heap.size w0 (W67.setRow ga lra.toArray) at hH72
              clear hA67 hB67 hH67
              generalize W67.setRow ga lra.toArray = W72 at *
              refine wpAnyH_ready (rs := [17]) (by kernel_rfl) (by simp) ?_
              refine AllReadyH.cons rfl (fun K hK => ?_) AllReadyH.nil
              · rw [if_pos (by rfl)]
                refine wp_store_row 24 (.tmp 4) (.tmp 26) rfl gb lrb.toArray rfl rfl 24 _ hB72 lrb_HI.out lrb_HS.out lrb_HO.out ?_
                refine hK.out _ _ (below_setRow hH72 hgb _) (fun hH73 => ?_)
                clear hK K
                try simp only [Act.put, List.getElem_toArray, List.getElem_cons_succ, List.getElem_cons_zero, List.setIfInBounds_toArray, List.set_cons_zero, List.set_cons_succ]
                have hB73 := hB72.setRow lrb.toArray
                have hA73 := hA72.setRow_other gb lrb.toArray (by omega)
                change Arr (W72.setRow gb lrb.toArray) gb 24 lrb at hB73
                change wpAnyH _ _ _ _ _ _ _ _ (W72.setRow gb lrb.toArray)
                change Below w0.heap.size w0 (W72.setRow gb lrb.toArray) at hH73
                clear hA72 hB72 hH72
                generalize W72.setRow gb lrb.toArray = W73 at *
                refine wpAnyH_take (i := 18) (v := ?tv74) rfl (by kernel_rfl) (by kernel_rfl) (by kernel_rfl) (fun _ _ _ h => h) (Or.inl ⟨by rfl, ?ty74⟩) hH73 ?tr74
                case ty74 => intro wq hq; go_simp; with_reducible rfl
                try simp only [Act.put, List.getElem_toArray, List.getElem_cons_succ, List.getElem_cons_zero, List.setIfInBounds_toArray, List.set_cons_zero, List.set_cons_succ]
                refine wpAnyH_done (by kernel_rfl) ?_ _
                simp only [List.getElem_toArray, List.getElem_cons_succ, List.getElem_cons_zero, Exit.then, Act.put, List.setIfInBounds_toArray, List.set_cons_zero, List.set_cons_succ]
                go_at_K
                have hX := hH73; have hXA := hA73; have hXB := hB73
                clear hH73 hA73 hB73
                generalize W73 = wx at *
                have xB := hW0.trans (hX.mono (by omega))
                have xR := range_below hr0 hX hAl
                have x32 := (hX.cell (p := ⟨A, 32, none⟩) hAl).trans hc32
                have x33 := (hX.cell (p := ⟨A, 33, none⟩) hAl).trans hc33
                have x34 := (hX.cell (p := ⟨A, 34, none⟩) hAl).trans hc34
                have xV := HD.out.below xB (by omega)
                have XR := Lib.hid xR
                clear hX xR
                go_wp2_with ((with_reducible refine at_ld 23 (.tmp 29) ?_); refine wpList_load_mid rfl 23 (.tmp 29) rfl A 0 rfl la _ XR.out huR.out rfl HLI.out ?_)
                refine (hextR _ xV).mono ?_
                rintro e wy ⟨rfl, hby⟩
                rw [HRA.out, HRB.out]
                have yB := xB.trans (hby.mono (by have := xB.size; omega))
                have yL := hXA.below hby hXA.lt
                have yM := hXB.below hby hXB.lt
                clear hby xB hXA hXB xV x32 x33 x34 XR
                have h6 := Lib.hid (two_vars wy 23 lra lrb)
                go_upto_region 5 with (first | ((with_reducible refine at_st 23 (.tmp 6) (.tmp 38) ?_); refine wpList_store_row rfl 23 (.tmp 6) (.tmp 38) rfl wy.heap.size lra.toArray rfl rfl 23 _ h6.out.1 lra_HIR.out lra_HS.out lra_HO.out ?_) | ((with_reducible refine at_st 23 (.tmp 7) (.tmp 39) ?_); refine wpList_store_row rfl 23 (.tmp 7) (.tmp 39) rfl (wy.heap.size + 1) lrb.toArray rfl rfl 23 _ h6.out.2.1 lrb_HIR.out lrb_HS.out lrb_HO.out ?_))
                have h7 := h6.out.2.2
                clear h6
                change Code.wp _ _ _ _ ((((wy.alloc (Z32 23)).alloc (Z32 23)).setRow wy.heap.size lra.toArray).setRow (wy.heap.size + 1) lrb.toArray)
                generalize ((((wy.alloc (Z32 23)).alloc (Z32 23)).setRow wy.heap.size lra.toArray).setRow (wy.heap.size + 1) lrb.toArray) = wz at *
                have zL := yL.below h7.2.2.1 yL.lt
                have zM := yM.below h7.2.2.1 yM.lt
                have zP := h7.1
                have zQ := h7.2.1
                have zB := yB.trans (h7.2.2.1.mono (by have := yB.size; omega))
                generalize wy.heap.size = gy at *
                clear yL yM yB h7
                have zR1 := zL.range; have zR2 := zM.range; have zR3 := zP.range; have zR4 := zQ.range
                have zl1 := zL.lt; have zl2 := zM.lt; have zl3 := zP.lt; have zl4 := zQ.lt
                refine wp_region_listed 16 [] (Below wz.heap.size wz) (by decide) (Stable.below wz) (Below.refl _ _) ?_
                simp only [List.range, List.range.loop, opsOf, List.getElem?_cons_succ, List.getElem?_cons_zero, List.drop_succ_cons, List.drop_zero]
                refine wpL_val ?v128 rfl (by rfl) (fun wq hq => ?y128) ?z128
                case y128 => go_simp; exact known_any _ (Hk.out.below (zB.trans (hq.mono (by have := zB.size; omega))) (by omega))
                try simp only [Act.put, List.setIfInBounds_toArray, List.set_cons_zero, List.set_cons_succ]
                refine wpL_val ?v129 rfl (by rfl) (fun wq hq => ?y129) ?z129
                case y129 => go_simp; with_reducible rfl
                try simp only [Act.put, List.setIfInBounds_toArray, List.set_cons_zero, List.set_cons_succ]
                refine wpL_val ?v130 rfl (by rfl) (fun wq hq => ?y130) ?z130
                case y130 => go_simp; with_reducible rfl
                try simp only [Act.put, List.setIfInBounds_toArray, List.set_cons_zero, List.set_cons_succ]
                refine wpL_val ?v131 rfl (by rfl) (fun wq hq => ?y131) ?z131
                case y131 => go_simp; with_reducible rfl
                try simp only [Act.put, List.setIfInBounds_toArray, List.set_cons_zero, List.set_cons_succ]
                refine wpL_val ?v132 rfl (by rfl) (fun wq hq => ?y132) ?z132
                case y132 => go_simp; with_reducible rfl
                try simp only [Act.put, List.setIfInBounds_toArray, List.set_cons_zero, List.set_cons_succ]
                refine wpL_val ?v133 rfl (by rfl) (fun wq hq => ?y133) ?z133
                case y133 => go_simp; with_reducible rfl
                try simp only [Act.put, List.setIfInBounds_toArray, List.set_cons_zero, List.set_cons_succ]
                refine wpL_val ?v134 rfl (by rfl) (fun wq hq => ?y134) ?z134
                case y134 => go_simp; with_reducible rfl
                try simp only [Act.put, List.setIfInBounds_toArray, List.set_cons_zero, List.set_cons_succ]
                refine wpL_val (.agg lra.toArray) rfl (by rfl) (fun wq hq => quiet_ld 24 _ rfl _ _ rfl lra _ (range_below zR1 hq zl1) hu.out rfl lra_LI.out) ?_
                try simp only [Act.put, List.setIfInBounds_toArray, List.set_cons_zero, List.set_cons_succ]
                refine wpL_val (.agg lra.toArray) rfl (by rfl) (fun wq hq => quiet_ld 23 _ rfl _ _ rfl lra _ (range_below zR3 hq zl3) huR.out rfl lra_LIR.out) ?_
                try simp only [Act.put, List.setIfInBounds_toArray, List.set_cons_zero, List.set_cons_succ]
                refine wpL_val ?v137 rfl (by rfl) (fun wq hq => ?y137) ?z137
                case y137 => go_simp; rw [eqlR ra ra hral hral _ _ HRA2.out HRA2.out, decide_eq_true rfl]; go_simp; with_reducible rfl
                try simp only [Act.put, List.setIfInBounds_toArray, List.set_cons_zero, List.set_cons_succ]
                refine wpL_val ?v138 rfl (by rfl) (fun wq hq => ?y138) ?z138
                case y138 => go_simp; with_reducible rfl
                try simp only [Act.put, List.setIfInBounds_toArray, List.set_cons_zero, List.set_cons_succ]
                refine wpL_val ?v139 rfl (by rfl) (fun wq hq => ?y139) ?z139
                case y139 => go_simp; with_reducible rfl
                try simp only [Act.put, List.setIfInBounds_toArray, List.set_cons_zero, List.set_cons_succ]
                refine wpL_val (.agg lrb.toArray) rfl (by rfl) (fun wq hq => quiet_ld 24 _ rfl _ _ rfl lrb _ (range_below zR2 hq zl2) hu.out rfl lrb_LI.out) ?_
                try simp only [Act.put, List.setIfInBounds_toArray, List.set_cons_zero, List.set_cons_succ]
                refine wpL_val (.agg lrb.toArray) rfl (by rfl) (fun wq hq => quiet_ld 23 _ rfl _ _ rfl lrb _ (range_below zR4 hq zl4) huR.out rfl lrb_LIR.out) ?_
                try simp only [Act.put, List.setIfInBounds_toArray, List.set_cons_zero, List.set_cons_succ]
                refine wpL_val ?v142 rfl (by rfl) (fun wq hq => ?y142) ?z142
                case y142 => go_simp; rw [eqlR rb rb hrbl hrbl _ _ HRB2.out HRB2.out, decide_eq_true rfl]; go_simp; with_reducible rfl
                try simp only [Act.put, List.setIfInBounds_toArray, List.set_cons_zero, List.set_cons_succ]
                refine wpL_val ?v143 rfl (by rfl) (fun wq hq => ?y143) ?z143
                case y143 => go_simp; with_reducible rfl
                try simp only [Act.put, List.setIfInBounds_toArray, List.set_cons_zero, List.set_cons_succ]
                refine wpL_nil ?_
                intro wt hwt
                go_wp2_with fail
                go_ret
                exact ⟨rfl, by (try rw [hAe]); exact zB.trans (hwt.mono (by have := zB.size; omega))⟩
      · rw [if_pos (by rfl)]
        go_simp
        refine hK.out _ _ (hH55.alloc hH55.size (.cells (List.replicate 32 (V8 0)).toArray 24)) (fun hH75 => ?_)
        clear hK K
        try simp only [Act.put, List.getElem_toArray, List.getElem_cons_succ, List.getElem_cons_zero, List.setIfInBounds_toArray, List.set_cons_zero, List.set_cons_succ]
        have hB75 := Arr.new W55 24 (List.replicate 32 (V8 0))
        have hne := hA55.lt
        have hA75 := hA55.alloc (.cells (List.replicate 32 (V8 0)).toArray 24)
        clear hA55
        have hgb : w0.heap.size ≤ W55.heap.size := hH55.size
        change wpAnyH _ _ _ _ _ _ _ _ (W55.alloc (.cells (List.replicate 32 (V8 0)).toArray 24))
        clear hH55
        change Below w0.heap.size w0 (W55.alloc (.cells (List.replicate 32 (V8 0)).toArray 24)) at hH75
        generalize W55.alloc (.cells (List.replicate 32 (V8 0)).toArray 24) = W75 at *
        generalize W55.heap.size = gb at *
        refine wpAnyH_ready (rs := [8]) (by kernel_rfl) (by simp) ?_
        refine AllReadyH.cons rfl (fun K hK => ?_) AllReadyH.nil
        · rw [if_pos (by rfl)]
          go_simp
          refine (hown _ (HD.out.below (hW0.trans (hH75.mono (by omega))) (by omega))).mono ?_
          rintro e W76 ⟨⟨v4, rfl, hV76⟩, hb76⟩
          refine hK.out _ _ (hH75.trans (hb76.mono hH75.size)) (fun hH76 => ?_)
          clear hK K
          try simp only [Act.put, List.getElem_toArray, List.getElem_cons_succ, List.getElem_cons_zero, List.setIfInBounds_toArray, List.set_cons_zero, List.set_cons_succ]
          have hA76 := hA75.below hb76 hA75.lt
          clear hA75
          have hB76 := hB75.below hb76 hB75.lt
          clear hB75
          clear hb76 hH75
          refine wpAnyH_ready (rs := [9]) (by kernel_rfl) (by simp) ?_
          refine AllReadyH.cons rfl (fun K hK => ?_) AllReadyH.nil
          · rw [if_pos (by rfl)]
            go_simp
            refine (hext _ _ hV76 (Hk.out.below (hW0.trans (hH76.mono (by omega))) (by omega))).mono ?_
            rintro e W77 ⟨rfl, hb77⟩
            rw [HRA.out, HRB.out]
            refine hK.out _ _ (hH76.trans (hb77.mono hH76.size)) (fun hH77 => ?_)
            clear hK K
            try simp only [Act.put, List.getElem_toArray, List.getElem_cons_succ, List.getElem_cons_zero, List.setIfInBounds_toArray, List.set_cons_zero, List.set_cons_succ]
            have hA77 := hA76.below hb77 hA76.lt
            clear hA76
            have hB77 := hB76.below hb77 hB76.lt
            clear hB76
            clear hb77 hH76 hV76
            refine wpAnyH_take (i := 10) (v := ?tv78) rfl (by kernel_rfl) (by kernel_rfl) (by kernel_rfl) (fun _ _ _ h => h) (Or.inl ⟨by rfl, ?ty78⟩) hH77 ?tr78
            case ty78 => intro wq hq; go_simp; with_reducible rfl
            try simp only [Act.put, List.getElem_toArray, List.getElem_cons_succ, List.getElem_cons_zero, List.setIfInBounds_toArray, List.set_cons_zero, List.set_cons_succ]
            refine wpAnyH_take (i := 11) (v := ?tv79) rfl (by kernel_rfl) (by kernel_rfl) (by kernel_rfl) (fun _ _ _ h => h) (Or.inl ⟨by rfl, ?ty79⟩) hH77 ?tr79
            case ty79 => intro wq hq; go_simp; with_reducible rfl
            try simp only [Act.put, List.getElem_toArray, List.getElem_cons_succ, List.getElem_cons_zero, List.setIfInBounds_toArray, List.set_cons_zero, List.set_cons_succ]
            refine wpAnyH_take (i := 12) (v := ?tv80) rfl (by kernel_rfl) (by kernel_rfl) (by kernel_rfl) (fun _ _ _ h => h) (Or.inl ⟨by rfl, ?ty80⟩) hH77 ?tr80
            case ty80 => intro wq hq; go_simp; with_reducible rfl
            try simp only [Act.put, List.getElem_toArray, List.getElem_cons_succ, List.getElem_cons_zero, List.setIfInBounds_toArray, List.set_cons_zero, List.set_cons_succ]
            refine wpAnyH_take (i := 13) (v := ?tv81) rfl (by kernel_rfl) (by kernel_rfl) (by kernel_rfl) (fun _ _ _ h => h) (Or.inl ⟨by rfl, ?ty81⟩) hH77 ?tr81
            case ty81 => intro wq hq; go_simp; with_reducible rfl
            try simp only [Act.put, List.getElem_toArray, List.getElem_cons_succ, List.getElem_cons_zero, List.setIfInBounds_toArray, List.set_cons_zero, List.set_cons_succ]
            refine wpAnyH_ready (rs := [16]) (by kernel_rfl) (by simp) ?_
            refine AllReadyH.cons rfl (fun K hK => ?_) AllReadyH.nil
            · rw [if_pos (by rfl)]
              refine wp_store_row 24 (.tmp 3) (.tmp 25) rfl ga lra.toArray rfl rfl 24 _ hA77 lra_HI.out lra_HS.out lra_HO.out ?_
              refine hK.out _ _ (below_setRow hH77 hga _) (fun hH82 => ?_)
              clear hK K
              try simp only [Act.put, List.getElem_toArray, List.getElem_cons_succ, List.getElem_cons_zero, List.setIfInBounds_toArray, List.set_cons_zero, List.set_cons_succ]
              have hA82 := hA77.setRow lra.toArray
              have hB82 := hB77.setRow_other ga lra.toArray (by omega)
              change Arr (W77.setRow ga lra.toArray) ga 24 lra at hA82
              change wpAnyH _ _ _ _ _ _ _ _ (W77.setRow ga lra.toArray)
              change Below w0.heap.size w0 (W77.setRow ga lra.toArray) at hH82
              clear hA77 hB77 hH77
              generalize W77.setRow ga lra.toArray = W82 at *
              refine wpAnyH_ready (rs := [17]) (by kernel_rfl) (by simp) ?_
              refine AllReadyH.cons rfl (fun K hK => ?_) AllReadyH.nil
              · rw [if_pos (by rfl)]
                refine wp_store_row 24 (.tmp 4) (.tmp 26) rfl gb lrb.toArray rfl rfl 24 _ hB82 lrb_HI.out lrb_HS.out lrb_HO.out ?_
                refine hK.out _ _ (below_setRow hH82 hgb _) (fun hH83 => ?_)
                clear hK K
                try simp only [Act.put, List.getElem_toArray, List.getElem_cons_succ, List.getElem_cons_zero, List.setIfInBounds_toArray, List.set_cons_zero, List.set_cons_succ]
                have hB83 := hB82.setRow lrb.toArray
                have hA83 := hA82.setRow_other gb lrb.toArray (by omega)
                change Arr (W82.setRow gb lrb.toArray) gb 24 lrb at hB83
                change wpAnyH _ _ _ _ _ _ _ _ (W82.setRow gb lrb.toArray)
                change Below w0.heap.size w0 (W82.setRow gb lrb.toArray) at hH83
                clear hA82 hB82 hH82
                generalize W82.setRow gb lrb.toArray = W83 at *
                refine wpAnyH_take (i := 18) (v := ?tv84) rfl (by kernel_rfl) (by kernel_rfl) (by kernel_rfl) (fun _ _ _ h => h) (Or.inl ⟨by rfl, ?ty84⟩) hH83 ?tr84
                case ty84 => intro wq hq; go_simp; with_reducible rfl
                try simp only [Act.put, List.getElem_toArray, List.getElem_cons_succ, List.getElem_cons_zero, List.setIfInBounds_toArray, List.set_cons_zero, List.set_cons_succ]
                refine wpAnyH_done (by kernel_rfl) ?_ _
                simp only [List.getElem_toArray, List.getElem_cons_succ, List.getElem_cons_zero, Exit.then, Act.put, List.setIfInBounds_toArray, List.set_cons_zero, List.set_cons_succ]
                go_at_K
                have hX := hH83; have hXA := hA83; have hXB := hB83
                clear hH83 hA83 hB83
                generalize W83 = wx at *
                have xB := hW0.trans (hX.mono (by omega))
                have xR := range_below hr0 hX hAl
                have x32 := (hX.cell (p := ⟨A, 32, none⟩) hAl).trans hc32
                have x33 := (hX.cell (p := ⟨A, 33, none⟩) hAl).trans hc33
                have x34 := (hX.cell (p := ⟨A, 34, none⟩) hAl).trans hc34
                have xV := HD.out.below xB (by omega)
                have XR := Lib.hid xR
                clear hX xR
                go_wp2_with ((with_reducible refine at_ld 23 (.tmp 29) ?_); refine wpList_load_mid rfl 23 (.tmp 29) rfl A 0 rfl la _ XR.out huR.out rfl HLI.out ?_)
                refine (hextR _ xV).mono ?_
                rintro e wy ⟨rfl, hby⟩
                rw [HRA.out, HRB.out]
                have yB := xB.trans (hby.mono (by have := xB.size; omega))
                have yL := hXA.below hby hXA.lt
                have yM := hXB.below hby hXB.lt
                clear hby xB hXA hXB xV x32 x33 x34 XR
                have h6 := Lib.hid (two_vars wy 23 lra lrb)
                go_upto_region 5 with (first | ((with_reducible refine at_st 23 (.tmp 6) (.tmp 38) ?_); refine wpList_store_row rfl 23 (.tmp 6) (.tmp 38) rfl wy.heap.size lra.toArray rfl rfl 23 _ h6.out.1 lra_HIR.out lra_HS.out lra_HO.out ?_) | ((with_reducible refine at_st 23 (.tmp 7) (.tmp 39) ?_); refine wpList_store_row rfl 23 (.tmp 7) (.tmp 39) rfl (wy.heap.size + 1) lrb.toArray rfl rfl 23 _ h6.out.2.1 lrb_HIR.out lrb_HS.out lrb_HO.out ?_))
                have h7 := h6.out.2.2
                clear h6
                change Code.wp _ _ _ _ ((((wy.alloc (Z32 23)).alloc (Z32 23)).setRow wy.heap.size lra.toArray).setRow (wy.heap.size + 1) lrb.toArray)
                generalize ((((wy.alloc (Z32 23)).alloc (Z32 23)).setRow wy.heap.size lra.toArray).setRow (wy.heap.size + 1) lrb.toArray) = wz at *
                have zL := yL.below h7.2.2.1 yL.lt
                have zM := yM.below h7.2.2.1 yM.lt
                have zP := h7.1
                have zQ := h7.2.1
                have zB := yB.trans (h7.2.2.1.mono (by have := yB.size; omega))
                generalize wy.heap.size = gy at *
                clear yL yM yB h7
                have zR1 := zL.range; have zR2 := zM.range; have zR3 := zP.range; have zR4 := zQ.range
                have zl1 := zL.lt; have zl2 := zM.lt; have zl3 := zP.lt; have zl4 := zQ.lt
                refine wp_region_listed 16 [] (Below wz.heap.size wz) (by decide) (Stable.below wz) (Below.refl _ _) ?_
                simp only [List.range, List.range.loop, opsOf, List.getElem?_cons_succ, List.getElem?_cons_zero, List.drop_succ_cons, List.drop_zero]
                refine wpL_val ?v146 rfl (by rfl) (fun wq hq => ?y146) ?z146
                case y146 => go_simp; exact known_any _ (Hk.out.below (zB.trans (hq.mono (by have := zB.size; omega))) (by omega))
                try simp only [Act.put, List.setIfInBounds_toArray, List.set_cons_zero, List.set_cons_succ]
                refine wpL_val ?v147 rfl (by rfl) (fun wq hq => ?y147) ?z147
                case y147 => go_simp; with_reducible rfl
                try simp only [Act.put, List.setIfInBounds_toArray, List.set_cons_zero, List.set_cons_succ]
                refine wpL_val ?v148 rfl (by rfl) (fun wq hq => ?y148) ?z148
                case y148 => go_simp; with_reducible rfl
                try simp only [Act.put, List.setIfInBounds_toArray, List.set_cons_zero, List.set_cons_succ]
                refine wpL_val ?v149 rfl (by rfl) (fun wq hq => ?y149) ?z149
                case y149 => go_simp; with_reducible rfl
                try simp only [Act.put, List.setIfInBounds_toArray, List.set_cons_zero, List.set_cons_succ]
                refine wpL_val ?v150 rfl (by rfl) (fun wq hq => ?y150) ?z150
                case y150 => go_simp; with_reducible rfl
                try simp only [Act.put, List.setIfInBounds_toArray, List.set_cons_zero, List.set_cons_succ]
                refine wpL_val ?v151 rfl (by rfl) (fun wq hq => ?y151) ?z151
                case y151 => go_simp; with_reducible rfl
                try simp only [Act.put, List.setIfInBounds_toArray, List.set_cons_zero, List.set_cons_succ]
                refine wpL_val ?v152 rfl (by rfl) (fun wq hq => ?y152) ?z152
                case y152 => go_simp; with_reducible rfl
                try simp only [Act.put, List.setIfInBounds_toArray, List.set_cons_zero, List.set_cons_succ]
                refine wpL_val (.agg lra.toArray) rfl (by rfl) (fun wq hq => quiet_ld 24 _ rfl _ _ rfl lra _ (range_below zR1 hq zl1) hu.out rfl lra_LI.out) ?_
                try simp only [Act.put, List.setIfInBounds_toArray, List.set_cons_zero, List.set_cons_succ]
                refine wpL_val (.agg lra.toArray) rfl (by rfl) (fun wq hq => quiet_ld 23 _ rfl _ _ rfl lra _ (range_below zR3 hq zl3) huR.out rfl lra_LIR.out) ?_
                try simp only [Act.put, List.setIfInBounds_toArray, List.set_cons_zero, List.set_cons_succ]
                refine wpL_val ?v155 rfl (by rfl) (fun wq hq => ?y155) ?z155
                case y155 => go_simp; rw [eqlR ra ra hral hral _ _ HRA2.out HRA2.out, decide_eq_true rfl]; go_simp; with_reducible rfl
                try simp only [Act.put, List.setIfInBounds_toArray, List.set_cons_zero, List.set_cons_succ]
                refine wpL_val ?v156 rfl (by rfl) (fun wq hq => ?y156) ?z156
                case y156 => go_simp; with_reducible rfl
                try simp only [Act.put, List.setIfInBounds_toArray, List.set_cons_zero, List.set_cons_succ]
                refine wpL_val ?v157 rfl (by rfl) (fun wq hq => ?y157) ?z157
                case y157 => go_simp; with_reducible rfl
                try simp only [Act.put, List.setIfInBounds_toArray, List.set_cons_zero, List.set_cons_succ]
                refine wpL_val (.agg lrb.toArray) rfl (by rfl) (fun wq hq => quiet_ld 24 _ rfl _ _ rfl lrb _ (range_below zR2 hq zl2) hu.out rfl lrb_LI.out) ?_
                try simp only [Act.put, List.setIfInBounds_toArray, List.set_cons_zero, List.set_cons_succ]
                refine wpL_val (.agg lrb.toArray) rfl (by rfl) (fun wq hq => quiet_ld 23 _ rfl _ _ rfl lrb _ (range_below zR4 hq zl4) huR.out rfl lrb_LIR.out) ?_
                try simp only [Act.put, List.setIfInBounds_toArray, List.set_cons_zero, List.set_cons_succ]
                refine wpL_val ?v160 rfl (by rfl) (fun wq hq => ?y160) ?z160
                case y160 => go_simp; rw [eqlR rb rb hrbl hrbl _ _ HRB2.out HRB2.out, decide_eq_true rfl]; go_simp; with_reducible rfl
                try simp only [Act.put, List.setIfInBounds_toArray, List.set_cons_zero, List.set_cons_succ]
                refine wpL_val ?v161 rfl (by rfl) (fun wq hq => ?y161) ?z161
                case y161 => go_simp; with_reducible rfl
                try simp only [Act.put, List.setIfInBounds_toArray, List.set_cons_zero, List.set_cons_succ]
                refine wpL_nil ?_
                intro wt hwt
                go_wp2_with fail
                go_ret
                exact ⟨rfl, by (try rw [hAe]); exact zB.trans (hwt.mono (by have := zB.size; omega))⟩
    · rw [if_pos (by rfl)]
      go_simp
      refine hK.out _ _ (hH0.alloc hH0.size (.cells (List.replicate 32 (V8 0)).toArray 24)) (fun hH85 => ?_)
      clear hK K
      try simp only [Act.put, List.getElem_toArray, List.getElem_cons_succ, List.getElem_cons_zero, List.setIfInBounds_toArray, List.set_cons_zero, List.set_cons_succ]
      have hB85 := Arr.new W0 24 (List.replicate 32 (V8 0))
      have hgb : w0.heap.size ≤ W0.heap.size := hH0.size
      change wpAnyH _ _ _ _ _ _ _ _ (W0.alloc (.cells (List.replicate 32 (V8 0)).toArray 24))
      clear hH0
      change Below w0.heap.size w0 (W0.alloc (.cells (List.replicate 32 (V8 0)).toArray 24)) at hH85
      generalize W0.alloc (.cells (List.replicate 32 (V8 0)).toArray 24) = W85 at *
      generalize W0.heap.size = gb at *
      refine wpAnyH_ready (rs := [8, 14]) (by kernel_rfl) (by simp) ?_
      refine AllReadyH.cons rfl (fun K hK => ?_) (AllReadyH.cons rfl (fun K hK => ?_) AllReadyH.nil)
      · rw [if_pos (by rfl)]
        go_simp
        refine (hown _ (HD.out.below (hW0.trans (hH85.mono (by omega))) (by omega))).mono ?_
        rintro e W86 ⟨⟨v4, rfl, hV86⟩, hb86⟩
        refine hK.out _ _ (hH85.trans (hb86.mono hH85.size)) (fun hH86 => ?_)
        clear hK K
        try simp only [Act.put, List.getElem_toArray, List.getElem_cons_succ, List.getElem_cons_zero, List.setIfInBounds_toArray, List.set_cons_zero, List.set_cons_succ]
        have hB86 := hB85.below hb86 hB85.lt
        clear hB85
        clear hb86 hH85
        refine wpAnyH_ready (rs := [9, 14]) (by kernel_rfl) (by simp) ?_
        refine AllReadyH.cons rfl (fun K hK => ?_) (AllReadyH.cons rfl (fun K hK => ?_) AllReadyH.nil)
        · rw [if_pos (by rfl)]
          go_simp
          refine (hext _ _ hV86 (Hk.out.below (hW0.trans (hH86.mono (by omega))) (by omega))).mono ?_
          rintro e W87 ⟨rfl, hb87⟩
          rw [HRA.out, HRB.out]
          refine hK.out _ _ (hH86.trans (hb87.mono hH86.size)) (fun hH87 => ?_)
          clear hK K
          try simp only [Act.put, List.getElem_toArray, List.getElem_cons_succ, List.getElem_cons_zero, List.setIfInBounds_toArray, List.set_cons_zero, List.set_cons_succ]
          have hB87 := hB86.below hb87 hB86.lt
          clear hB86
          clear hb87 hH86 hV86
          refine wpAnyH_take (i := 10) (v := ?tv88) rfl (by kernel_rfl) (by kernel_rfl) (by kernel_rfl) (fun _ _ _ h => h) (Or.inl ⟨by rfl, ?ty88⟩) hH87 ?tr88
          case ty88 => intro wq hq; go_simp; with_reducible rfl
          try simp only [Act.put, List.getElem_toArray, List.getElem_cons_succ, List.getElem_cons_zero, List.setIfInBounds_toArray, List.set_cons_zero, List.set_cons_succ]
          refine wpAnyH_take (i := 11) (v := ?tv89) rfl (by kernel_rfl) (by kernel_rfl) (by kernel_rfl) (fun _ _ _ h => h) (Or.inl ⟨by rfl, ?ty89⟩) hH87 ?tr89
          case ty89 => intro wq hq; go_simp; with_reducible rfl
          try simp only [Act.put, List.getElem_toArray, List.getElem_cons_succ, List.getElem_cons_zero, List.setIfInBounds_toArray, List.set_cons_zero, List.set_cons_succ]
          refine wpAnyH_take (i := 12) (v := ?tv90) rfl (by kernel_rfl) (by kernel_rfl) (by kernel_rfl) (fun _ _ _ h => h) (Or.inl ⟨by rfl, ?ty90⟩) hH87 ?tr90
          case ty90 => intro wq hq; go_simp; with_reducible rfl
          try simp only [Act.put, List.getElem_toArray, List.getElem_cons_succ, List.getElem_cons_zero, List.setIfInBounds_toArray, List.set_cons_zero, List.set_cons_succ]
          refine wpAnyH_take (i := 13) (v := ?tv91) rfl (by kernel_rfl) (by kernel_rfl) (by kernel_rfl) (fun _ _ _ h => h) (Or.inl ⟨by rfl, ?ty91⟩) hH87 ?tr91
          case ty91 => intro wq hq; go_simp; with_reducible rfl
          try simp only [Act.put, List.getElem_toArray, List.getElem_cons_succ, List.getElem_cons_zero, List.setIfInBounds_toArray, List.set_cons_zero, List.set_cons_succ]
          refine wpAnyH_ready (rs := [14]) (by kernel_rfl) (by simp) ?_
          refine AllReadyH.cons rfl (fun K hK => ?_) AllReadyH.nil
          · rw [if_pos (by rfl)]
            go_simp
            refine hK.out _ _ (hH87.alloc hH87.size (.cells (List.replicate 32 (V8 0)).toArray 24)) (fun hH92 => ?_)
            clear hK K
            try simp only [Act.put, List.getElem_toArray, List.getElem_cons_succ, List.getElem_cons_zero, List.setIfInBounds_toArray, List.set_cons_zero, List.set_cons_succ]
            have hA92 := Arr.new W87 24 (List.replicate 32 (V8 0))
            have hne := hB87.lt
            have hB92 := hB87.alloc (.cells (List.replicate 32 (V8 0)).toArray 24)
            clear hB87
            have hga : w0.heap.size ≤ W87.heap.size := hH87.size
            change wpAnyH _ _ _ _ _ _ _ _ (W87.alloc (.cells (List.replicate 32 (V8 0)).toArray 24))
            clear hH87
            change Below w0.heap.size w0 (W87.alloc (.cells (List.replicate 32 (V8 0)).toArray 24)) at hH92
            generalize W87.alloc (.cells (List.replicate 32 (V8 0)).toArray 24) = W92 at *
            generalize W87.heap.size = ga at *
            refine wpAnyH_ready (rs := [16]) (by kernel_rfl) (by simp) ?_
            refine AllReadyH.cons rfl (fun K hK => ?_) AllReadyH.nil
            · rw [if_pos (by rfl)]
              refine wp_store_row 24 (.tmp 3) (.tmp 25) rfl ga lra.toArray rfl rfl 24 _ hA92 lra_HI.out lra_HS.out lra_HO.out ?_
              refine hK.out _ _ (below_setRow hH92 hga _) (fun hH93 => ?_)
              clear hK K
              try simp only [Act.put, List.getElem_toArray, List.getElem_cons_succ, List.getElem_cons_zero, List.setIfInBounds_toArray, List.set_cons_zero, List.set_cons_succ]
              have hA93 := hA92.setRow lra.toArray
              have hB93 := hB92.setRow_other ga lra.toArray (by omega)
              change Arr (W92.setRow ga lra.toArray) ga 24 lra at hA93
              change wpAnyH _ _ _ _ _ _ _ _ (W92.setRow ga lra.toArray)
              change Below w0.heap.size w0 (W92.setRow ga lra.toArray) at hH93
              clear hA92 hB92 hH92
              generalize W92.setRow ga lra.toArray = W93 at *
              refine wpAnyH_ready (rs := [17]) (by kernel_rfl) (by simp) ?_
              refine AllReadyH.cons rfl (fun K hK => ?_) AllReadyH.nil
              · rw [if_pos (by rfl)]
                refine wp_store_row 24 (.tmp 4) (.tmp 26) rfl gb lrb.toArray rfl rfl 24 _ hB93 lrb_HI.out lrb_HS.out lrb_HO.out ?_
                refine hK.out _ _ (below_setRow hH93 hgb _) (fun hH94 => ?_)
                clear hK K
                try simp only [Act.put, List.getElem_toArray, List.getElem_cons_succ, List.getElem_cons_zero, List.setIfInBounds_toArray, List.set_cons_zero, List.set_cons_succ]
                have hB94 := hB93.setRow lrb.toArray
                have hA94 := hA93.setRow_other gb lrb.toArray (by omega)
                change Arr (W93.setRow gb lrb.toArray) gb 24 lrb at hB94
                change wpAnyH _ _ _ _ _ _ _ _ (W93.setRow gb lrb.toArray)
                change Below w0.heap.size w0 (W93.setRow gb lrb.toArray) at hH94
                clear hA93 hB93 hH93
                generalize W93.setRow gb lrb.toArray = W94 at *
                refine wpAnyH_take (i := 18) (v := ?tv95) rfl (by kernel_rfl) (by kernel_rfl) (by kernel_rfl) (fun _ _ _ h => h) (Or.inl ⟨by rfl, ?ty95⟩) hH94 ?tr95
                case ty95 => intro wq hq; go_simp; with_reducible rfl
                try simp only [Act.put, List.getElem_toArray, List.getElem_cons_succ, List.getElem_cons_zero, List.setIfInBounds_toArray, List.set_cons_zero, List.set_cons_succ]
                refine wpAnyH_done (by kernel_rfl) ?_ _
                simp only [List.getElem_toArray, List.getElem_cons_succ, List.getElem_cons_zero, Exit.then, Act.put, List.setIfInBounds_toArray, List.set_cons_zero, List.set_cons_succ]
                go_at_K
                have hX := hH94; have hXA := hA94; have hXB := hB94
                clear hH94 hA94 hB94
                generalize W94 = wx at *
                have xB := hW0.trans (hX.mono (by omega))
                have xR := range_below hr0 hX hAl
                have x32 := (hX.cell (p := ⟨A, 32, none⟩) hAl).trans hc32
                have x33 := (hX.cell (p := ⟨A, 33, none⟩) hAl).trans hc33
                have x34 := (hX.cell (p := ⟨A, 34, none⟩) hAl).trans hc34
                have xV := HD.out.below xB (by omega)
                have XR := Lib.hid xR
                clear hX xR
                go_wp2_with ((with_reducible refine at_ld 23 (.tmp 29) ?_); refine wpList_load_mid rfl 23 (.tmp 29) rfl A 0 rfl la _ XR.out huR.out rfl HLI.out ?_)
                refine (hextR _ xV).mono ?_
                rintro e wy ⟨rfl, hby⟩
                rw [HRA.out, HRB.out]
                have yB := xB.trans (hby.mono (by have := xB.size; omega))
                have yL := hXA.below hby hXA.lt
                have yM := hXB.below hby hXB.lt
                clear hby xB hXA hXB xV x32 x33 x34 XR
                have h6 := Lib.hid (two_vars wy 23 lra lrb)
                go_upto_region 5 with (first | ((with_reducible refine at_st 23 (.tmp 6) (.tmp 38) ?_); refine wpList_store_row rfl 23 (.tmp 6) (.tmp 38) rfl wy.heap.size lra.toArray rfl rfl 23 _ h6.out.1 lra_HIR.out lra_HS.out lra_HO.out ?_) | ((with_reducible refine at_st 23 (.tmp 7) (.tmp 39) ?_); refine wpList_store_row rfl 23 (.tmp 7) (.tmp 39) rfl (wy.heap.size + 1) lrb.toArray rfl rfl 23 _ h6.out.2.1 lrb_HIR.out lrb_HS.out lrb_HO.out ?_))
                have h7 := h6.out.2.2
                clear h6
                change Code.wp _ _ _ _ ((((wy.alloc (Z32 23)).alloc (Z32 23)).setRow wy.heap.size lra.toArray).setRow (wy.heap.size + 1) lrb.toArray)
                generalize ((((wy.alloc (Z32 23)).alloc (Z32 23)).setRow wy.heap.size lra.toArray).setRow (wy.heap.size + 1) lrb.toArray) = wz at *
                have zL := yL.below h7.2.2.1 yL.lt
                have zM := yM.below h7.2.2.1 yM.lt
                have zP := h7.1
                have zQ := h7.2.1
                have zB := yB.trans (h7.2.2.1.mono (by have := yB.size; omega))
                generalize wy.heap.size = gy at *
                clear yL yM yB h7
                have zR1 := zL.range; have zR2 := zM.range; have zR3 := zP.range; have zR4 := zQ.range
                have zl1 := zL.lt; have zl2 := zM.lt; have zl3 := zP.lt; have zl4 := zQ.lt
                refine wp_region_listed 16 [] (Below wz.heap.size wz) (by decide) (Stable.below wz) (Below.refl _ _) ?_
                simp only [List.range, List.range.loop, opsOf, List.getElem?_cons_succ, List.getElem?_cons_zero, List.drop_succ_cons, List.drop_zero]
                refine wpL_val ?v164 rfl (by rfl) (fun wq hq => ?y164) ?z164
                case y164 => go_simp; exact known_any _ (Hk.out.below (zB.trans (hq.mono (by have := zB.size; omega))) (by omega))
                try simp only [Act.put, List.setIfInBounds_toArray, List.set_cons_zero, List.set_cons_succ]
                refine wpL_val ?v165 rfl (by rfl) (fun wq hq => ?y165) ?z165
                case y165 => go_simp; with_reducible rfl
                try simp only [Act.put, List.setIfInBounds_toArray, List.set_cons_zero, List.set_cons_succ]
                refine wpL_val ?v166 rfl (by rfl) (fun wq hq => ?y166) ?z166
                case y166 => go_simp; with_reducible rfl
                try simp only [Act.put, List.setIfInBounds_toArray, List.set_cons_zero, List.set_cons_succ]
                refine wpL_val ?v167 rfl (by rfl) (fun wq hq => ?y167) ?z167
                case y167 => go_simp; with_reducible rfl
                try simp only [Act.put, List.setIfInBounds_toArray, List.set_cons_zero, List.set_cons_succ]
                refine wpL_val ?v168 rfl (by rfl) (fun wq hq => ?y168) ?z168
                case y168 => go_simp; with_reducible rfl
                try simp only [Act.put, List.setIfInBounds_toArray, List.set_cons_zero, List.set_cons_succ]
                refine wpL_val ?v169 rfl (by rfl) (fun wq hq => ?y169) ?z169
                case y169 => go_simp; with_reducible rfl
                try simp only [Act.put, List.setIfInBounds_toArray, List.set_cons_zero, List.set_cons_succ]
                refine wpL_val ?v170 rfl (by rfl) (fun wq hq => ?y170) ?z170
                case y170 => go_simp; with_reducible rfl
                try simp only [Act.put, List.setIfInBounds_toArray, List.set_cons_zero, List.set_cons_succ]
                refine wpL_val (.agg lra.toArray) rfl (by rfl) (fun wq hq => quiet_ld 24 _ rfl _ _ rfl lra _ (range_below zR1 hq zl1) hu.out rfl lra_LI.out) ?_
                try simp only [Act.put, List.setIfInBounds_toArray, List.set_cons_zero, List.set_cons_succ]
                refine wpL_val (.agg lra.toArray) rfl (by rfl) (fun wq hq => quiet_ld 23 _ rfl _ _ rfl lra _ (range_below zR3 hq zl3) huR.out rfl lra_LIR.out) ?_
                try simp only [Act.put, List.setIfInBounds_toArray, List.set_cons_zero, List.set_cons_succ]
                refine wpL_val ?v173 rfl (by rfl) (fun wq hq => ?y173) ?z173
                case y173 => go_simp; rw [eqlR ra ra hral hral _ _ HRA2.out HRA2.out, decide_eq_true rfl]; go_simp; with_reducible rfl
                try simp only [Act.put, List.setIfInBounds_toArray, List.set_cons_zero, List.set_cons_succ]
                refine wpL_val ?v174 rfl (by rfl) (fun wq hq => ?y174) ?z174
                case y174 => go_simp; with_reducible rfl
                try simp only [Act.put, List.setIfInBounds_toArray, List.set_cons_zero, List.set_cons_succ]
                refine wpL_val ?v175 rfl (by rfl) (fun wq hq => ?y175) ?z175
                case y175 => go_simp; with_reducible rfl
                try simp only [Act.put, List.setIfInBounds_toArray, List.set_cons_zero, List.set_cons_succ]
                refine wpL_val (.agg lrb.toArray) rfl (by rfl) (fun wq hq => quiet_ld 24 _ rfl _ _ rfl lrb _ (range_below zR2 hq zl2) hu.out rfl lrb_LI.out) ?_
                try simp only [Act.put, List.setIfInBounds_toArray, List.set_cons_zero, List.set_cons_succ]
                refine wpL_val (.agg lrb.toArray) rfl (by rfl) (fun wq hq => quiet_ld 23 _ rfl _ _ rfl lrb _ (range_below zR4 hq zl4) huR.out rfl lrb_LIR.out) ?_
                try simp only [Act.put, List.setIfInBounds_toArray, List.set_cons_zero, List.set_cons_succ]
                refine wpL_val ?v178 rfl (by rfl) (fun wq hq => ?y178) ?z178
                case y178 => go_simp; rw [eqlR rb rb hrbl hrbl _ _ HRB2.out HRB2.out, decide_eq_true rfl]; go_simp; with_reducible rfl
                try simp only [Act.put, List.setIfInBounds_toArray, List.set_cons_zero, List.set_cons_succ]
                refine wpL_val ?v179 rfl (by rfl) (fun wq hq => ?y179) ?z179
                case y179 => go_simp; with_reducible rfl
                try simp only [Act.put, List.setIfInBounds_toArray, List.set_cons_zero, List.set_cons_succ]
                refine wpL_nil ?_
                intro wt hwt
                go_wp2_with fail
                go_ret
                exact ⟨rfl, by (try rw [hAe]); exact zB.trans (hwt.mono (by have := zB.size; omega))⟩
        · rw [if_pos (by rfl)]
          go_simp
          refine hK.out _ _ (hH86.alloc hH86.size (.cells (List.replicate 32 (V8 0)).toArray 24)) (fun hH96 => ?_)
          clear hK K
          try simp only [Act.put, List.getElem_toArray, List.getElem_cons_succ, List.getElem_cons_zero, List.setIfInBounds_toArray, List.set_cons_zero, List.set_cons_succ]
          have hA96 := Arr.new W86 24 (List.replicate 32 (V8 0))
          have hV96 := hV86.below (below_alloc W86 (.cells (List.replicate 32 (V8 0)).toArray 24)) (Nat.le_refl _)
          clear hV86
          have hne := hB86.lt
          have hB96 := hB86.alloc (.cells (List.replicate 32 (V8 0)).toArray 24)
          clear hB86
          have hga : w0.heap.size ≤ W86.heap.size := hH86.size
          change wpAnyH _ _ _ _ _ _ _ _ (W86.alloc (.cells (List.replicate 32 (V8 0)).toArray 24))
          clear hH86
          change Below w0.heap.size w0 (W86.alloc (.cells (List.replicate 32 (V8 0)).toArray 24)) at hH96
          generalize W86.alloc (.cells (List.replicate 32 (V8 0)).toArray 24) = W96 at *
          generalize W86.heap.size = ga at *
          refine wpAnyH_ready (rs := [9]) (by kernel_rfl) (by simp) ?_
          refine AllReadyH.cons rfl (fun K hK => ?_) AllReadyH.nil
          · rw [if_pos (by rfl)]
            go_simp
            refine (hext _ _ hV96 (Hk.out.below (hW0.trans (hH96.mono (by omega))) (by omega))).mono ?_
            rintro e W97 ⟨rfl, hb97⟩
            rw [HRA.out, HRB.out]
            refine hK.out _ _ (hH96.trans (hb97.mono hH96.size)) (fun hH97 => ?_)
            clear hK K
            try simp only [Act.put, List.getElem_toArray, List.getElem_cons_succ, List.getElem_cons_zero, List.setIfInBounds_toArray, List.set_cons_zero, List.set_cons_succ]
            have hA97 := hA96.below hb97 hA96.lt
            clear hA96
            have hB97 := hB96.below hb97 hB96.lt
            clear hB96
            clear hb97 hH96 hV96
            refine wpAnyH_take (i := 10) (v := ?tv98) rfl (by kernel_rfl) (by kernel_rfl) (by kernel_rfl) (fun _ _ _ h => h) (Or.inl ⟨by rfl, ?ty98⟩) hH97 ?tr98
            case ty98 => intro wq hq; go_simp; with_reducible rfl
            try simp only [Act.put, List.getElem_toArray, List.getElem_cons_succ, List.getElem_cons_zero, List.setIfInBounds_toArray, List.set_cons_zero, List.set_cons_succ]
            refine wpAnyH_take (i := 11) (v := ?tv99) rfl (by kernel_rfl) (by kernel_rfl) (by kernel_rfl) (fun _ _ _ h => h) (Or.inl ⟨by rfl, ?ty99⟩) hH97 ?tr99
            case ty99 => intro wq hq; go_simp; with_reducible rfl
            try simp only [Act.put, List.getElem_toArray, List.getElem_cons_succ, List.getElem_cons_zero, List.setIfInBounds_toArray, List.set_cons_zero, List.set_cons_succ]
            refine wpAnyH_take (i := 12) (v := ?tv100) rfl (by kernel_rfl) (by kernel_rfl) (by kernel_rfl) (fun _ _ _ h => h) (Or.inl ⟨by rfl, ?ty100⟩) hH97 ?tr100
            case ty100 => intro wq hq; go_simp; with_reducible rfl
            try simp only [Act.put, List.getElem_toArray, List.getElem_cons_succ, List.getElem_cons_zero, List.setIfInBounds_toArray, List.set_cons_zero, List.set_cons_succ]
            refine wpAnyH_take (i := 13) (v := ?tv101) rfl (by kernel_rfl) (by kernel_rfl) (by kernel_rfl) (fun _ _ _ h => h) (Or.inl ⟨by rfl, ?ty101⟩) hH97 ?tr101
            case ty101 => intro wq hq; go_simp; with_reducible rfl
            try simp only [Act.put, List.getElem_toArray, List.getElem_cons_succ, List.getElem_cons_zero, List.setIfInBounds_toArray, List.set_cons_zero, List.set_cons_succ]
            refine wpAnyH_ready (rs := [16]) (by kernel_rfl) (by simp) ?_
            refine AllReadyH.cons rfl (fun K hK => ?_) AllReadyH.nil
            · rw [if_pos (by rfl)]
              refine wp_store_row 24 (.tmp 3) (.tmp 25) rfl ga lra.toArray rfl rfl 24 _ hA97 lra_HI.out lra_HS.out lra_HO.out ?_
              refine hK.out _ _ (below_setRow hH97 hga _) (fun hH102 => ?_)
              clear hK K
              try simp only [Act.put, List.getElem_toArray, List.getElem_cons_succ, List.getElem_cons_zero, List.setIfInBounds_toArray, List.set_cons_zero, List.set_cons_succ]
              have hA102 := hA97.setRow lra.toArray
              have hB102 := hB97.setRow_other ga lra.toArray (by omega)
              change Arr (W97.setRow ga lra.toArray) ga 24 lra at hA102
              change wpAnyH _ _ _ _ _ _ _ _ (W97.setRow ga lra.toArray)
              change Below w0.heap.size w0 (W97.setRow ga lra.toArray) at hH102
              clear hA97 hB97 hH97
              generalize W97.setRow ga lra.toArray = W102 at *
              refine wpAnyH_ready (rs := [17]) (by kernel_rfl) (by simp) ?_
              refine AllReadyH.cons rfl (fun K hK => ?_) AllReadyH.nil
              · rw [if_pos (by rfl)]
                refine wp_store_row 24 (.tmp 4) (.tmp 26) rfl gb lrb.toArray rfl rfl 24 _ hB102 lrb_HI.out lrb_HS.out lrb_HO.out ?_
                refine hK.out _ _ (below_setRow hH102 hgb _) (fun hH103 => ?_)
                clear hK K
                try simp only [Act.put, List.getElem_toArray, List.getElem_cons_succ, List.getElem_cons_zero, List.setIfInBounds_toArray, List.set_cons_zero, List.set_cons_succ]
                have hB103 := hB102.setRow lrb.toArray
                have hA103 := hA102.setRow_other gb lrb.toArray (by omega)
                change Arr (W102.setRow gb lrb.toArray) gb 24 lrb at hB103
                change wpAnyH _ _ _ _ _ _ _ _ (W102.setRow gb lrb.toArray)
                change Below w0.heap.size w0 (W102.setRow gb lrb.toArray) at hH103
                clear hA102 hB102 hH102
                generalize W102.setRow gb lrb.toArray = W103 at *
                refine wpAnyH_take (i := 18) (v := ?tv104) rfl (by kernel_rfl) (by kernel_rfl) (by kernel_rfl) (fun _ _ _ h => h) (Or.inl ⟨by rfl, ?ty104⟩) hH103 ?tr104
                case ty104 => intro wq hq; go_simp; with_reducible rfl
                try simp only [Act.put, List.getElem_toArray, List.getElem_cons_succ, List.getElem_cons_zero, List.setIfInBounds_toArray, List.set_cons_zero, List.set_cons_succ]
                refine wpAnyH_done (by kernel_rfl) ?_ _
                simp only [List.getElem_toArray, List.getElem_cons_succ, List.getElem_cons_zero, Exit.then, Act.put, List.setIfInBounds_toArray, List.set_cons_zero, List.set_cons_succ]
                go_at_K
                have hX := hH103; have hXA := hA103; have hXB := hB103
                clear hH103 hA103 hB103
                generalize W103 = wx at *
                have xB := hW0.trans (hX.mono (by omega))
                have xR := range_below hr0 hX hAl
                have x32 := (hX.cell (p := ⟨A, 32, none⟩) hAl).trans hc32
                have x33 := (hX.cell (p := ⟨A, 33, none⟩) hAl).trans hc33
                have x34 := (hX.cell (p := ⟨A, 34, none⟩) hAl).trans hc34
                have xV := HD.out.below xB (by omega)
                have XR := Lib.hid xR
                clear hX xR
                go_wp2_with ((with_reducible refine at_ld 23 (.tmp 29) ?_); refine wpList_load_mid rfl 23 (.tmp 29) rfl A 0 rfl la _ XR.out huR.out rfl HLI.out ?_)
                refine (hextR _ xV).mono ?_
                rintro e wy ⟨rfl, hby⟩
                rw [HRA.out, HRB.out]
                have yB := xB.trans (hby.mono (by have := xB.size; omega))
                have yL := hXA.below hby hXA.lt
                have yM := hXB.below hby hXB.lt
                clear hby xB hXA hXB xV x32 x33 x34 XR
                have h6 := Lib.hid (two_vars wy 23 lra lrb)
                go_upto_region 5 with (first | ((with_reducible refine at_st 23 (.tmp 6) (.tmp 38) ?_); refine wpList_store_row rfl 23 (.tmp 6) (.tmp 38) rfl wy.heap.size lra.toArray rfl rfl 23 _ h6.out.1 lra_HIR.out lra_HS.out lra_HO.out ?_) | ((with_reducible refine at_st 23 (.tmp 7) (.tmp 39) ?_); refine wpList_store_row rfl 23 (.tmp 7) (.tmp 39) rfl (wy.heap.size + 1) lrb.toArray rfl rfl 23 _ h6.out.2.1 lrb_HIR.out lrb_HS.out lrb_HO.out ?_))
                have h7 := h6.out.2.2
                clear h6
                change Code.wp _ _ _ _ ((((wy.alloc (Z32 23)).alloc (Z32 23)).setRow wy.heap.size lra.toArray).setRow (wy.heap.size + 1) lrb.toArray)
                generalize ((((wy.alloc (Z32 23)).alloc (Z32 23)).setRow wy.heap.size lra.toArray).setRow (wy.heap.size + 1) lrb.toArray) = wz at *
                have zL := yL.below h7.2.2.1 yL.lt
                have zM := yM.below h7.2.2.1 yM.lt
                have zP := h7.1
                have zQ := h7.2.1
                have zB := yB.trans (h7.2.2.1.mono (by have := yB.size; omega))
                generalize wy.heap.size = gy at *
                clear yL yM yB h7
                have zR1 := zL.range; have zR2 := zM.range; have zR3 := zP.range; have zR4 := zQ.range
                have zl1 := zL.lt; have zl2 := zM.lt; have zl3 := zP.lt; have zl4 := zQ.lt
                refine wp_region_listed 16 [] (Below wz.heap.size wz) (by decide) (Stable.below wz) (Below.refl _ _) ?_
                simp only [List.range, List.range.loop, opsOf, List.getElem?_cons_succ, List.getElem?_cons_zero, List.drop_succ_cons, List.drop_zero]
                refine wpL_val ?v182 rfl (by rfl) (fun wq hq => ?y182) ?z182
                case y182 => go_simp; exact known_any _ (Hk.out.below (zB.trans (hq.mono (by have := zB.size; omega))) (by omega))
                try simp only [Act.put, List.setIfInBounds_toArray, List.set_cons_zero, List.set_cons_succ]
                refine wpL_val ?v183 rfl (by rfl) (fun wq hq => ?y183) ?z183
                case y183 => go_simp; with_reducible rfl
                try simp only [Act.put, List.setIfInBounds_toArray, List.set_cons_zero, List.set_cons_succ]
                refine wpL_val ?v184 rfl (by rfl) (fun wq hq => ?y184) ?z184
                case y184 => go_simp; with_reducible rfl
                try simp only [Act.put, List.setIfInBounds_toArray, List.set_cons_zero, List.set_cons_succ]
                refine wpL_val ?v185 rfl (by rfl) (fun wq hq => ?y185) ?z185
                case y185 => go_simp; with_reducible rfl
                try simp only [Act.put, List.setIfInBounds_toArray, List.set_cons_zero, List.set_cons_succ]
                refine wpL_val ?v186 rfl (by rfl) (fun wq hq => ?y186) ?z186
                case y186 => go_simp; with_reducible rfl
                try simp only [Act.put, List.setIfInBounds_toArray, List.set_cons_zero, List.set_cons_succ]
                refine wpL_val ?v187 rfl (by rfl) (fun wq hq => ?y187) ?z187
                case y187 => go_simp; with_reducible rfl
                try simp only [Act.put, List.setIfInBounds_toArray, List.set_cons_zero, List.set_cons_succ]
                refine wpL_val ?v188 rfl (by rfl) (fun wq hq => ?y188) ?z188
                case y188 => go_simp; with_reducible rfl
                try simp only [Act.put, List.setIfInBounds_toArray, List.set_cons_zero, List.set_cons_succ]
                refine wpL_val (.agg lra.toArray) rfl (by rfl) (fun wq hq => quiet_ld 24 _ rfl _ _ rfl lra _ (range_below zR1 hq zl1) hu.out rfl lra_LI.out) ?_
                try simp only [Act.put, List.setIfInBounds_toArray, List.set_cons_zero, List.set_cons_succ]
                refine wpL_val (.agg lra.toArray) rfl (by rfl) (fun wq hq => quiet_ld 23 _ rfl _ _ rfl lra _ (range_below zR3 hq zl3) huR.out rfl lra_LIR.out) ?_
                try simp only [Act.put, List.setIfInBounds_toArray, List.set_cons_zero, List.set_cons_succ]
                refine wpL_val ?v191 rfl (by rfl) (fun wq hq => ?y191) ?z191
                case y191 => go_simp; rw [eqlR ra ra hral hral _ _ HRA2.out HRA2.out, decide_eq_true rfl]; go_simp; with_reducible rfl
                try simp only [Act.put, List.setIfInBounds_toArray, List.set_cons_zero, List.set_cons_succ]
                refine wpL_val ?v192 rfl (by rfl) (fun wq hq => ?y192) ?z192
                case y192 => go_simp; with_reducible rfl
                try simp only [Act.put, List.setIfInBounds_toArray, List.set_cons_zero, List.set_cons_succ]
                refine wpL_val ?v193 rfl (by rfl) (fun wq hq => ?y193) ?z193
                case y193 => go_simp; with_reducible rfl
                try simp only [Act.put, List.setIfInBounds_toArray, List.set_cons_zero, List.set_cons_succ]
                refine wpL_val (.agg lrb.toArray) rfl (by rfl) (fun wq hq => quiet_ld 24 _ rfl _ _ rfl lrb _ (range_below zR2 hq zl2) hu.out rfl lrb_LI.out) ?_
                try simp only [Act.put, List.setIfInBounds_toArray, List.set_cons_zero, List.set_cons_succ]
                refine wpL_val (.agg lrb.toArray) rfl (by rfl) (fun wq hq => quiet_ld 23 _ rfl _ _ rfl lrb _ (range_below zR4 hq zl4) huR.out rfl lrb_LIR.out) ?_
                try simp only [Act.put, List.setIfInBounds_toArray, List.set_cons_zero, List.set_cons_succ]
                refine wpL_val ?v196 rfl (by rfl) (fun wq hq => ?y196) ?z196
                case y196 => go_simp; rw [eqlR rb rb hrbl hrbl _ _ HRB2.out HRB2.out, decide_eq_true rfl]; go_simp; with_reducible rfl
                try simp only [Act.put, List.setIfInBounds_toArray, List.set_cons_zero, List.set_cons_succ]
                refine wpL_val ?v197 rfl (by rfl) (fun wq hq => ?y197) ?z197
                case y197 => go_simp; with_reducible rfl
                try simp only [Act.put, List.setIfInBounds_toArray, List.set_cons_zero, List.set_cons_succ]
                refine wpL_nil ?_
                intro wt hwt
                go_wp2_with fail
                go_ret
                exact ⟨rfl, by (try rw [hAe]); exact zB.trans (hwt.mono (by have := zB.size; omega))⟩
      · rw [if_pos (by rfl)]
        go_simp
        refine hK.out _ _ (hH85.alloc hH85.size (.cells (List.replicate 32 (V8 0)).toArray 24)) (fun hH105 => ?_)
        clear hK K
        try simp only [Act.put, List.getElem_toArray, List.getElem_cons_succ, List.getElem_cons_zero, List.setIfInBounds_toArray, List.set_cons_zero, List.set_cons_succ]
        have hA105 := Arr.new W85 24 (List.replicate 32 (V8 0))
        have hne := hB85.lt
        have hB105 := hB85.alloc (.cells (List.replicate 32 (V8 0)).toArray 24)
        clear hB85
        have hga : w0.heap.size ≤ W85.heap.size := hH85.size
        change wpAnyH _ _ _ _ _ _ _ _ (W85.alloc (.cells (List.replicate 32 (V8 0)).toArray 24))
        clear hH85
        change Below w0.heap.size w0 (W85.alloc (.cells (List.replicate 32 (V8 0)).toArray 24)) at hH105
        generalize W85.alloc (.cells (List.replicate 32 (V8 0)).toArray 24) = W105 at *
        generalize W85.heap.size = ga at *
        refine wpAnyH_ready (rs := [8]) (by kernel_rfl) (by simp) ?_
        refine AllReadyH.cons rfl (fun K hK => ?_) AllReadyH.nil
        · rw [if_pos (by rfl)]
          go_simp
          refine (hown _ (HD.out.below (hW0.trans (hH105.mono (by omega))) (by omega))).mono ?_
          rintro e W106 ⟨⟨v4, rfl, hV106⟩, hb106⟩
          refine hK.out _ _ (hH105.trans (hb106.mono hH105.size)) (fun hH106 => ?_)
          clear hK K
          try simp only [Act.put, List.getElem_toArray, List.getElem_cons_succ, List.getElem_cons_zero, List.setIfInBounds_toArray, List.set_cons_zero, List.set_cons_succ]
          have hA106 := hA105.below hb106 hA105.lt
          clear hA105
          have hB106 := hB105.below hb106 hB105.lt
          clear hB105
          clear hb106 hH105
          refine wpAnyH_ready (rs := [9]) (by kernel_rfl) (by simp) ?_
          refine AllReadyH.cons rfl (fun K hK => ?_) AllReadyH.nil
          · rw [if_pos (by rfl)]
            go_simp
            refine (hext _ _ hV106 (Hk.out.below (hW0.trans (hH106.mono (by omega))) (by omega))).mono ?_
            rintro e W107 ⟨rfl, hb107⟩
            rw [HRA.out, HRB.out]
            refine hK.out _ _ (hH106.trans (hb107.mono hH106.size)) (fun hH107 => ?_)
            clear hK K
            try simp only [Act.put, List.getElem_toArray, List.getElem_cons_succ, List.getElem_cons_zero, List.setIfInBounds_toArray, List.set_cons_zero, List.set_cons_succ]
            have hA107 := hA106.below hb107 hA106.lt
            clear hA106
            have hB107 := hB106.below hb107 hB106.lt
            clear hB106
            clear hb107 hH106 hV106
            refine wpAnyH_take (i := 10) (v := ?tv108) rfl (by kernel_rfl) (by kernel_rfl) (by kernel_rfl) (fun _ _ _ h => h) (Or.inl ⟨by rfl, ?ty108⟩) hH107 ?tr108
            case ty108 => intro wq hq; go_simp; with_reducible rfl
            try simp only [Act.put, List.getElem_toArray, List.getElem_cons_succ, List.getElem_cons_zero, List.setIfInBounds_toArray, List.set_cons_zero, List.set_cons_succ]
            refine wpAnyH_take (i := 11) (v := ?tv109) rfl (by kernel_rfl) (by kernel_rfl) (by kernel_rfl) (fun _ _ _ h => h) (Or.inl ⟨by rfl, ?ty109⟩) hH107 ?tr109
            case ty109 => intro wq hq; go_simp; with_reducible rfl
            try simp only [Act.put, List.getElem_toArray, List.getElem_cons_succ, List.getElem_cons_zero, List.setIfInBounds_toArray, List.set_cons_zero, List.set_cons_succ]
            refine wpAnyH_take (i := 12) (v := ?tv110) rfl (by kernel_rfl) (by kernel_rfl) (by kernel_rfl) (fun _ _ _ h => h) (Or.inl ⟨by rfl, ?ty110⟩) hH107 ?tr110
            case ty110 => intro wq hq; go_simp; with_reducible rfl
            try simp only [Act.put, List.getElem_toArray, List.getElem_cons_succ, List.getElem_cons_zero, List.setIfInBounds_toArray, List.set_cons_zero, List.set_cons_succ]
            refine wpAnyH_take (i := 13) (v := ?tv111) rfl (by kernel_rfl) (by kernel_rfl) (by kernel_rfl) (fun _ _ _ h => h) (Or.inl ⟨by rfl, ?ty111⟩) hH107 ?tr111
            case ty111 => intro wq hq; go_simp; with_reducible rfl
            try simp only [Act.put, List.getElem_toArray, List.getElem_cons_succ, List.getElem_cons_zero, List.setIfInBounds_toArray, List.set_cons_zero, List.set_cons_succ]
            refine wpAnyH_ready (rs := [16]) (by kernel_rfl) (by simp) ?_
            refine AllReadyH.cons rfl (fun K hK => ?_) AllReadyH.nil
            · rw [if_pos (by rfl)]
              refine wp_store_row 24 (.tmp 3) (.tmp 25) rfl ga lra.toArray rfl rfl 24 _ hA107 lra_HI.out lra_HS.out lra_HO.out ?_
              refine hK.out _ _ (below_setRow hH107 hga _) (fun hH112 => ?_)
              clear hK K
              try simp only [Act.put, List.getElem_toArray, List.getElem_cons_succ, List.getElem_cons_zero, List.setIfInBounds_toArray, List.set_cons_zero, List.set_cons_succ]
              have hA112 := hA107.setRow lra.toArray
              have hB112 := hB107.setRow_other ga lra.toArray (by omega)
              change Arr (W107.setRow ga lra.toArray) ga 24 lra at hA112
              change wpAnyH _ _ _ _ _ _ _ _ (W107.setRow ga lra.toArray)
              change Below w0.heap.size w0 (W107.setRow ga lra.toArray) at hH112
              clear hA107 hB107 hH107
              generalize W107.setRow ga lra.toArray = W112 at *
              refine wpAnyH_ready (rs := [17]) (by kernel_rfl) (by simp) ?_
              refine AllReadyH.cons rfl (fun K hK => ?_) AllReadyH.nil
              · rw [if_pos (by rfl)]
                refine wp_store_row 24 (.tmp 4) (.tmp 26) rfl gb lrb.toArray rfl rfl 24 _ hB112 lrb_HI.out lrb_HS.out lrb_HO.out ?_
                refine hK.out _ _ (below_setRow hH112 hgb _) (fun hH113 => ?_)
                clear hK K
                try simp only [Act.put, List.getElem_toArray, List.getElem_cons_succ, List.getElem_cons_zero, List.setIfInBounds_toArray, List.set_cons_zero, List.set_cons_succ]
                have hB113 := hB112.setRow lrb.toArray
                have hA113 := hA112.setRow_other gb lrb.toArray (by omega)
                change Arr (W112.setRow gb lrb.toArray) gb 24 lrb at hB113
                change wpAnyH _ _ _ _ _ _ _ _ (W112.setRow gb lrb.toArray)
                change Below w0.heap.size w0 (W112.setRow gb lrb.toArray) at hH113
                clear hA112 hB112 hH112
                generalize W112.setRow gb lrb.toArray = W113 at *
                refine wpAnyH_take (i := 18) (v := ?tv114) rfl (by kernel_rfl) (by kernel_rfl) (by kernel_rfl) (fun _ _ _ h => h) (Or.inl ⟨by rfl, ?ty114⟩) hH113 ?tr114
                case ty114 => intro wq hq; go_simp; with_reducible rfl
                try simp only [Act.put, List.getElem_toArray, List.getElem_cons_succ, List.getElem_cons_zero, List.setIfInBounds_toArray, List.set_cons_zero, List.set_cons_succ]
                refine wpAnyH_done (by kernel_rfl) ?_ _
                simp only [List.getElem_toArray, List.getElem_cons_succ, List.getElem_cons_zero, Exit.then, Act.put, List.setIfInBounds_toArray, List.set_cons_zero, List.set_cons_succ]
                go_at_K
                have hX := hH113; have hXA := hA113; have hXB := hB113
                clear hH113 hA113 hB113
                generalize W113 = wx at *
                have xB := hW0.trans (hX.mono (by omega))
                have xR := range_below hr0 hX hAl
                have x32 := (hX.cell (p := ⟨A, 32, none⟩) hAl).trans hc32
                have x33 := (hX.cell (p := ⟨A, 33, none⟩) hAl).trans hc33
                have x34 := (hX.cell (p := ⟨A, 34, none⟩) hAl).trans hc34
                have xV := HD.out.below xB (by omega)
                have XR := Lib.hid xR
                clear hX xR
                go_wp2_with ((with_reducible refine at_ld 23 (.tmp 29) ?_); refine wpList_load_mid rfl 23 (.tmp 29) rfl A 0 rfl la _ XR.out huR.out rfl HLI.out ?_)
                refine (hextR _ xV).mono ?_
                rintro e wy ⟨rfl, hby⟩
                rw [HRA.out, HRB.out]
                have yB := xB.trans (hby.mono (by have := xB.size; omega))
                have yL := hXA.below hby hXA.lt
                have yM := hXB.below hby hXB.lt
                clear hby xB hXA hXB xV x32 x33 x34 XR
                have h6 := Lib.hid (two_vars wy 23 lra lrb)
                go_upto_region 5 with (first | ((with_reducible refine at_st 23 (.tmp 6) (.tmp 38) ?_); refine wpList_store_row rfl 23 (.tmp 6) (.tmp 38) rfl wy.heap.size lra.toArray rfl rfl 23 _ h6.out.1 lra_HIR.out lra_HS.out lra_HO.out ?_) | ((with_reducible refine at_st 23 (.tmp 7) (.tmp 39) ?_); refine wpList_store_row rfl 23 (.tmp 7) (.tmp 39) rfl (wy.heap.size + 1) lrb.toArray rfl rfl 23 _ h6.out.2.1 lrb_HIR.out lrb_HS.out lrb_HO.out ?_))
                have h7 := h6.out.2.2
                clear h6
                change Code.wp _ _ _ _ ((((wy.alloc (Z32 23)).alloc (Z32 23)).setRow wy.heap.size lra.toArray).setRow (wy.heap.size + 1) lrb.toArray)
                generalize ((((wy.alloc (Z32 23)).alloc (Z32 23)).setRow wy.heap.size lra.toArray).setRow (wy.heap.size + 1) lrb.toArray) = wz at *
                have zL := yL.below h7.2.2.1 yL.lt
                have zM := yM.below h7.2.2.1 yM.lt
                have zP := h7.1
                have zQ := h7.2.1
                have zB := yB.trans (h7.2.2.1.mono (by have := yB.size; omega))
                generalize wy.heap.size = gy at *
                clear yL yM yB h7
                have zR1 := zL.range; have zR2 := zM.range; have zR3 := zP.range; have zR4 := zQ.range
                have zl1 := zL.lt; have zl2 := zM.lt; have zl3 := zP.lt; have zl4 := zQ.lt
                refine wp_region_listed 16 [] (Below wz.heap.size wz) (by decide) (Stable.below wz) (Below.refl _ _) ?_
                simp only [List.range, List.range.loop, opsOf, List.getElem?_cons_succ, List.getElem?_cons_zero, List.drop_succ_cons, List.drop_zero]
                refine wpL_val ?v200 rfl (by rfl) (fun wq hq => ?y200) ?z200
                case y200 => go_simp; exact known_any _ (Hk.out.below (zB.trans (hq.mono (by have := zB.size; omega))) (by omega))
                try simp only [Act.put, List.setIfInBounds_toArray, List.set_cons_zero, List.set_cons_succ]
                refine wpL_val ?v201 rfl (by rfl) (fun wq hq => ?y201) ?z201
                case y201 => go_simp; with_reducible rfl
                try simp only [Act.put, List.setIfInBounds_toArray, List.set_cons_zero, List.set_cons_succ]
                refine wpL_val ?v202 rfl (by rfl) (fun wq hq => ?y202) ?z202
                case y202 => go_simp; with_reducible rfl
                try simp only [Act.put, List.setIfInBounds_toArray, List.set_cons_zero, List.set_cons_succ]
                refine wpL_val ?v203 rfl (by rfl) (fun wq hq => ?y203) ?z203
                case y203 => go_simp; with_reducible rfl
                try simp only [Act.put, List.setIfInBounds_toArray, List.set_cons_zero, List.set_cons_succ]
                refine wpL_val ?v204 rfl (by rfl) (fun wq hq => ?y204) ?z204
                case y204 => go_simp; with_reducible rfl
                try simp only [Act.put, List.setIfInBounds_toArray, List.set_cons_zero, List.set_cons_succ]
                refine wpL_val ?v205 rfl (by rfl) (fun wq hq => ?y205) ?z205
                case y205 => go_simp; with_reducible rfl
                try simp only [Act.put, List.setIfInBounds_toArray, List.set_cons_zero, List.set_cons_succ]
                refine wpL_val ?v206 rfl (by rfl) (fun wq hq => ?y206) ?z206
                case y206 => go_simp; with_reducible rfl
                try simp only [Act.put, List.setIfInBounds_toArray, List.set_cons_zero, List.set_cons_succ]
                refine wpL_val (.agg lra.toArray) rfl (by rfl) (fun wq hq => quiet_ld 24 _ rfl _ _ rfl lra _ (range_below zR1 hq zl1) hu.out rfl lra_LI.out) ?_
                try simp only [Act.put, List.setIfInBounds_toArray, List.set_cons_zero, List.set_cons_succ]
                refine wpL_val (.agg lra.toArray) rfl (by rfl) (fun wq hq => quiet_ld 23 _ rfl _ _ rfl lra _ (range_below zR3 hq zl3) huR.out rfl lra_LIR.out) ?_
                try simp only [Act.put, List.setIfInBounds_toArray, List.set_cons_zero, List.set_cons_succ]
                refine wpL_val ?v209 rfl (by rfl) (fun wq hq => ?y209) ?z209
                case y209 => go_simp; rw [eqlR ra ra hral hral _ _ HRA2.out HRA2.out, decide_eq_true rfl]; go_simp; with_reducible rfl
                try simp only [Act.put, List.setIfInBounds_toArray, List.set_cons_zero, List.set_cons_succ]
                refine wpL_val ?v210 rfl (by rfl) (fun wq hq => ?y210) ?z210
                case y210 => go_simp; with_reducible rfl
                try simp only [Act.put, List.setIfInBounds_toArray, List.set_cons_zero, List.set_cons_succ]
                refine wpL_val ?v211 rfl (by rfl) (fun wq hq => ?y211) ?z211
                case y211 => go_simp; with_reducible rfl
                try simp only [Act.put, List.setIfInBounds_toArray, List.set_cons_zero, List.set_cons_succ]
                refine wpL_val (.agg lrb.toArray) rfl (by rfl) (fun wq hq => quiet_ld 24 _ rfl _ _ rfl lrb _ (range_below zR2 hq zl2) hu.out rfl lrb_LI.out) ?_
                try simp only [Act.put, List.setIfInBounds_toArray, List.set_cons_zero, List.set_cons_succ]
                refine wpL_val (.agg lrb.toArray) rfl (by rfl) (fun wq hq => quiet_ld 23 _ rfl _ _ rfl lrb _ (range_below zR4 hq zl4) huR.out rfl lrb_LIR.out) ?_
                try simp only [Act.put, List.setIfInBounds_toArray, List.set_cons_zero, List.set_cons_succ]
                refine wpL_val ?v214 rfl (by rfl) (fun wq hq => ?y214) ?z214
                case y214 => go_simp; rw [eqlR rb rb hrbl hrbl _ _ HRB2.out HRB2.out, decide_eq_true rfl]; go_simp; with_reducible rfl
                try simp only [Act.put, List.setIfInBounds_toArray, List.set_cons_zero, List.set_cons_succ]
                refine wpL_val ?v215 rfl (by rfl) (fun wq hq => ?y215) ?z215
                case y215 => go_simp; with_reducible rfl
                try simp only [Act.put, List.setIfInBounds_toArray, List.set_cons_zero, List.set_cons_succ]
                refine wpL_nil ?_
                intro wt hwt
                go_wp2_with fail
                go_ret
                exact ⟨rfl, by (try rw [hAe]); exact zB.trans (hwt.mono (by have := zB.size; omega))⟩
  · have hd30 : decide ((30 : Int) < ((path.length : Nat) : Int)) = true := decide_eq_true (by omega)
    have hm30 : (30 : Int) < ((path.length : Nat) : Int) := by omega
    clear hA hao hal h30
    generalize path.length = m at *
    go_enter Tryd.func5, Tryd.ntmps5
    go_upto_region 1 with (fail)
    change Code.wp _ _ _ _ (w.alloc (.cells lc.toArray 40))
    generalize w.alloc (.cells lc.toArray 40) = w0 at *
    have hc34 := H34.out
    go_wp2_with fail
    refine (known_any _ (Hk.out.below HW0.out (Nat.le_refl _))).mono ?_
    rintro e w1 ⟨rfl, hb⟩
    go_wp2_with fail
    go_ret
    exact ⟨rfl, HW0.out.trans (hb.mono HW0.out.size)⟩
end Go.Proofs.YteehpfccegnjjaaDoor
