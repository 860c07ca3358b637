/-
  The walk of the law LogtreeTrees.
-/
import Derived.Test.YteehpfccegnjjaaDoorTreesA
namespace Go.Proofs.YteehpfccegnjjaaDoor
open Go Go.RowKit TreesA

set_option maxRecDepth 100000 in
set_option linter.unusedSimpArgs false in
set_option maxHeartbeats 4000000 in
theorem trees_law (n s a b : Int) (w : World) (hn : (Lit.int .u8 n).wf = true) (hs : (Lit.int .u8 s).wf = true) (hK : KT w) :
    Calls Tryd.prog 9 #[.int .u8 n, .int .u8 s, .agg #[.int .i64 a, .int .i64 b]] w fun e w' => e = .returned (.bool true) ∧ Below w.heap.size w w' := by
  obtain ⟨nb, rfl⟩ : ∃ x : UInt8, n = x.toNat := u8_of_wf hn
  obtain ⟨sb, rfl⟩ : ∃ x : UInt8, s = x.toNat := u8_of_wf hs
  have hall := leaves_all nb sb
  have hlen := leaves_length nb sb
  have hlv := fun w => leaves_any nb sb w
  have h41 : nb.toNat % 41 < 41 := Nat.mod_lt _ (by omega)
  rw [← hlen] at h41
  generalize leaves nb sb = LS at *
  have hu := Lib.hid Tryd.underlying24
  have huR := Lib.hid Tryd.underlying23
  have HK := Lib.hid hK
  have HALL := Lib.hid hall
  have hB0 : Below w.heap.size w (w.alloc (.cells [.int .i64 a, .int .i64 b].toArray 63)) := below_alloc _ _
  have hA0 : Arr (w.alloc (.cells [.int .i64 a, .int .i64 b].toArray 63)) w.heap.size 63 [.int .i64 a, .int .i64 b] := Arr.new _ _ _
  have HB0 := Lib.hid hB0; have HA0 := Lib.hid hA0
  clear hn hs hlen hK hall hB0 hA0
  go_enter Tryd.func9, Tryd.ntmps9
  go_upto_region 1 with (fail)
  change Code.wp _ _ _ _ (w.alloc (.cells [.int .i64 a, .int .i64 b].toArray 63))
  generalize w.alloc (.cells [.int .i64 a, .int .i64 b].toArray 63) = w0 at *
  have HK0 := Lib.hid (HK.out.below HB0.out (Nat.le_refl _))
  go_wp2_with fail
  refine (known_any _ HK0.out).mono ?_
  rintro e w1 ⟨rfl, hb1⟩
  have HB1 := Lib.hid (HB0.out.trans (hb1.mono HB0.out.size))
  have HA1 := Lib.hid (HA0.out.below hb1 HA0.out.lt)
  have HK1 := Lib.hid (HK0.out.below hb1 (Nat.le_refl _))
  clear hb1 HB0 HA0 HK0
  go_wp2_with fail
  refine (hlv _).mono ?_
  rintro e w2 ⟨vl, rfl, hD2, hb2⟩
  obtain ⟨al, cl, rfl⟩ := hD2.shape
  have HB2 := Lib.hid (HB1.out.trans (hb2.mono HB1.out.size))
  have HA2 := Lib.hid (HA1.out.below hb2 HA1.out.lt)
  have HK2 := Lib.hid (HK1.out.below hb2 (Nat.le_refl _))
  have HD2 := Lib.hid hD2
  clear hb2 hD2 HB1 HK1 HA1
  go_wp2_with fail
  refine (grown_any LS _ w2 (by omega) HD2.out HK2.out).mono ?_
  rintro e w3 ⟨g, u, rfl, hT3, hb3⟩
  have HBB := Lib.hid hb3
  have HA3 := Lib.hid (HA2.out.below hb3 HA2.out.lt)
  have HT3 := Lib.hid hT3
  clear hT3 hb3 HA2 HK2 hlv
  obtain ⟨dx, cx, hdx, hxg, hxb, hleaf⟩ := leaf_spec w2.heap.size g LS HALL.out a
  obtain ⟨dr, cr, hdr, hrg, hrb, hroot⟩ := root_spec w2.heap.size g LS HALL.out (by omega) b
  obtain ⟨ps, cp, hps, hpl, hpg, hpb, hinc⟩ := include_spec w2.heap.size g LS HALL.out (by omega) a b
  obtain ⟨qs, cq, hqs, hql, hqg, hqb, hext⟩ := extend_spec w2.heap.size g LS HALL.out (by omega) a b
  obtain ⟨lx, hlx, hxm, hxl, hxo⟩ := v8_list dx hdx
  obtain ⟨lr, hlr, hrm, hrl, hro⟩ := v8_list dr hdr
  have HXG := Lib.hid hxg; have HXB := Lib.hid hxb; have HRG := Lib.hid hrg; have HRB := Lib.hid hrb
  have HPG := Lib.hid hpg; have HPB := Lib.hid hpb; have HQG := Lib.hid hqg; have HQB := Lib.hid hqb
  have HPA := Lib.hid hps; have HQA := Lib.hid hqs; have HLX := Lib.hid hlx; have HLR := Lib.hid hlr; have HDX := Lib.hid hdx; have HXM := Lib.hid hxm
  have lx_I := Lib.hid (inf_size infD32 lx hxl); have lx_S := Lib.hid (st_size lx hxl); have lx_O := Lib.hid (all_oneCell_toArray hxo)
  have lr_I := Lib.hid (inf_size infD32 lr hrl); have lr_S := Lib.hid (st_size lr hrl); have lr_O := Lib.hid (all_oneCell_toArray hro)
  have lx_L := Lib.hid (show (Tryd.prog.info? 24).map (·.size) = some lx.length by rw [hxl]; exact infD32)
  have lr_L := Lib.hid (show (Tryd.prog.info? 24).map (·.size) = some lr.length by rw [hrl]; exact infD32)
  have lx_LR := Lib.hid (show (Tryd.prog.info? 23).map (·.size) = some lx.length by rw [hxl]; exact infR32)
  rw [hlx] at hleaf
  rw [hlr] at hroot
  clear hxg hxb hrg hrb hpg hpb hqg hqb hps hqs hlx hlr hdx hdr hxm hxl hxo hrm hrl hro
  go_upto_region 7 with (fail)
  have c50 := HA3.out.cell 0; have c51 := HA3.out.cell 1
  simp only [List.getElem?_cons_zero, List.getElem?_cons_succ] at c50 c51
  have hlwA5 := HA3.out.lt
  have C50 := Lib.hid c50; have C51 := Lib.hid c51
  clear c50 c51 HA3
  refine wp_region_all [] [0, 1, 2, 3, 4, 5] (Below w3.heap.size w3) (Stable.below w3) (Below.refl _ _).drew (by kernel_rfl) (by kernel_rfl) ?_
  simp only [opsOf, List.getElem?_cons_succ, List.getElem?_cons_zero, List.drop_succ_cons, List.drop_zero]
  refine wpL_val ?v74 rfl (by rfl) (fun wq hq => ?y74) ?z74
  case y74 => go_simp; with_reducible rfl
  try simp only [Act.put, List.setIfInBounds_toArray, List.set_cons_zero, List.set_cons_succ]
  refine wpL_val ?v75 rfl (by rfl) (fun wq hq => ?y75) ?z75
  case y75 => have c := (hq.cell (p := ⟨w.heap.size, 0, none⟩) hlwA5).trans C50.out; go_simp; with_reducible rfl
  try simp only [Act.put, List.setIfInBounds_toArray, List.set_cons_zero, List.set_cons_succ]
  refine wpL_val ?v76 rfl (by rfl) (fun wq hq => ?y76) ?z76
  case y76 => go_simp; with_reducible rfl
  try simp only [Act.put, List.setIfInBounds_toArray, List.set_cons_zero, List.set_cons_succ]
  refine wpL_val ?v77 rfl (by rfl) (fun wq hq => ?y77) ?z77
  case y77 => have c := (hq.cell (p := ⟨w.heap.size, 1, none⟩) hlwA5).trans C51.out; go_simp; with_reducible rfl
  try simp only [Act.put, List.setIfInBounds_toArray, List.set_cons_zero, List.set_cons_succ]
  refine wpL_val ?v78 rfl (by rfl) (fun wq hq => ?y78) ?z78
  case y78 => go_simp; with_reducible rfl
  try simp only [Act.put, List.setIfInBounds_toArray, List.set_cons_zero, List.set_cons_succ]
  refine wpL_val ?v79 rfl (by rfl) (fun wq hq => ?y79) ?z79
  case y79 => go_simp; with_reducible rfl
  try simp only [Act.put, List.setIfInBounds_toArray, List.set_cons_zero, List.set_cons_succ]
  refine wpL_nil ?_
  intro w4 hw4
  have HT4 := Lib.hid (HT3.out.below hw4)
  have HBB4 := Lib.hid (HBB.out.trans (hw4.mono HBB.out.size))
  clear C50 C51 hlwA5 HT3 HBB hw4
  go_wp2_with fail
  refine (hleaf _ _ _ HT4.out).mono ?_
  rintro e w5 ⟨rfl, hb5⟩
  have HT5 := Lib.hid (HT4.out.below hb5)
  have HBB5 := Lib.hid (HBB4.out.trans (hb5.mono HBB4.out.size))
  clear hb5 hleaf HT4 HBB4
  have HV := Lib.hid (one_var w5 24 lx)
  go_upto_region 9 with ((with_reducible refine at_st 24 (.tmp 12) (.tmp 40) ?_); refine wpList_store_row rfl 24 (.tmp 12) (.tmp 40) rfl w5.heap.size lx.toArray rfl rfl 24 _ HV.out.1 lx_I.out lx_S.out lx_O.out ?_)
  have ⟨hA0, hAX, hBX, hZX⟩ := HV.out
  clear HV hA0 hZX
  change Code.wp _ _ _ _ ((w5.alloc (Z32 24)).setRow w5.heap.size lx.toArray)
  generalize (w5.alloc (Z32 24)).setRow w5.heap.size lx.toArray = w6 at *
  have HT6 := Lib.hid (HT5.out.below hBX)
  have HBB6 := Lib.hid (HBB5.out.trans (hBX.mono HBB5.out.size))
  have hg12 : g < w5.heap.size := HT5.out.lt
  generalize w5.heap.size = b12 at *
  have HAX6 := Lib.hid hAX
  clear hAX hBX HT5 HBB5
  go_wp2_with fail
  refine (hroot _ _ _ HT6.out).mono ?_
  rintro e w7 ⟨rfl, hP7⟩
  obtain ⟨mv7, hT7⟩ := hP7.tr
  have HT7 := Lib.hid hT7
  have HBB7 := Lib.hid (HBB6.out.trans (hP7.base HT6.out))
  have HAX7 := Lib.hid (hP7.arr HT6.out HAX6.out (by omega))
  clear hP7 hT7 hroot HT6 HBB6 HAX6
  have HV := Lib.hid (one_var w7 24 lr)
  go_upto_region 10 with ((with_reducible refine at_st 24 (.tmp 14) (.tmp 46) ?_); refine wpList_store_row rfl 24 (.tmp 14) (.tmp 46) rfl w7.heap.size lr.toArray rfl rfl 24 _ HV.out.1 lr_I.out lr_S.out lr_O.out ?_)
  have ⟨hA0, hAX, hBX, hZX⟩ := HV.out
  clear HV hA0 hZX
  change Code.wp _ _ _ _ ((w7.alloc (Z32 24)).setRow w7.heap.size lr.toArray)
  generalize (w7.alloc (Z32 24)).setRow w7.heap.size lr.toArray = w8 at *
  have HT8 := Lib.hid (HT7.out.below hBX)
  have HBB8 := Lib.hid (HBB7.out.trans (hBX.mono HBB7.out.size))
  have hg14 : g < w7.heap.size := HT7.out.lt
  have HAX8 := Lib.hid (HAX7.out.below hBX HAX7.out.lt)
  generalize w7.heap.size = b14 at *
  have HAR8 := Lib.hid hAX
  clear hAX hBX HT7 HBB7 HAX7
  go_wp2_with fail
  refine (hinc _ _ _ HT8.out).mono ?_
  rintro e w9 ⟨vp, rfl, hO9, hP9⟩
  obtain ⟨ap, cpp, rfl⟩ := hO9.shape
  obtain ⟨mv9, hT9⟩ := hP9.tr
  have HT9 := Lib.hid hT9
  have HBB9 := Lib.hid (HBB8.out.trans (hP9.base HT8.out))
  have HAX9 := Lib.hid (hP9.arr HT8.out HAX8.out (by omega))
  have HAR9 := Lib.hid (hP9.arr HT8.out HAR8.out (by omega))
  have HO9 := Lib.hid hO9
  have hg8 : g < w8.heap.size := HT8.out.lt
  clear hP9 hT9 hO9 hinc HBB8 HAX8 HAR8
  go_wp2_with fail
  refine (hext _ _ _ HT9.out).mono ?_
  rintro e w10 ⟨vq, rfl, hO10, hP10⟩
  obtain ⟨aq, cqq, rfl⟩ := hO10.shape
  have hB10 := HBB9.out.trans (hP10.base HT9.out)
  have HAX := Lib.hid (hP10.arr HT9.out HAX9.out (by omega))
  have HAR := Lib.hid (hP10.arr HT9.out HAR9.out (by omega))
  have HDP0 := Lib.hid ((hP10.own HT9.out HO9.out (fun e => by have := (HO9.out.lt _ e).1; omega)).digs HPA.out)
  have HDQ0 := Lib.hid (hO10.digs HQA.out)
  have HD10 := Lib.hid (HD2.out.below hB10 (Nat.le_refl _))
  have HW10 := Lib.hid (HB2.out.trans (hB10.mono HB2.out.size))
  clear hP10 hO10 hext HBB9 HAX9 HAR9 HO9 HPA HQA HT9 HT8 HB2 HD2 hB10 hg8 hg12 hg14 HK
  go_upto_region 12 with (fail)
  by_cases ha : 0 ≤ a ∧ a < LS.length
  · have d1 : decide (a < 0) = false := decide_eq_false (by omega)
    have d2 : decide ((LS.length : Int) ≤ a) = false := decide_eq_false (by omega)
    have e1 : ¬ a < 0 := by omega
    have e2 : ¬ (LS.length : Int) ≤ a := by omega
    obtain ⟨hx1, hx2⟩ := HXG.out ha
    subst hx2
    have HAIN := Lib.hid ha
    obtain ⟨gl, ol, capl, hvl, -, hgl, hrl⟩ := HD10.out.pos (by omega)
    simp only [Value.slice.injEq] at hvl
    obtain ⟨rfl, -, rfl⟩ := hvl
    have HRL := Lib.hid (hrl a.toNat (by omega))
    obtain ⟨k, rfl⟩ := Int.eq_ofNat_of_zero_le ha.1
    rw [Int.toNat_natCast] at hx1 HRL
    have hkl : k < LS.length := by omega
    have HX1 := Lib.hid hx1
    clear hx1 hrl ha
    go_upto_region 15 with (fail)
    have HRX : Hid (w10.rangeAt gl (ol + k * 32) lx) := Lib.hid (by rw [HXM.out, HX1.out]; exact HRL.out)
    refine wp_region_all [] [0, 1, 2, 3, 4, 5, 6, 7, 8, 9] (Below w10.heap.size w10) (Stable.below w10) (Below.refl _ _).drew (by kernel_rfl) (by kernel_rfl) ?_
    simp only [opsOf, List.getElem?_cons_succ, List.getElem?_cons_zero, List.drop_succ_cons, List.drop_zero]
    refine wpL_val (.agg lx.toArray) rfl (by rfl) (fun wq hq => quiet_ld 24 _ rfl _ _ rfl lx _ (range_below HAX.out.range hq HAX.out.lt) hu.out rfl lx_L.out) ?_
    try simp only [Act.put, List.setIfInBounds_toArray, List.set_cons_zero, List.set_cons_succ]
    refine wpL_val ?v83 rfl (by rfl) (fun wq hq => ?y83) ?z83
    case y83 => go_simp; with_reducible rfl
    try simp only [Act.put, List.setIfInBounds_toArray, List.set_cons_zero, List.set_cons_succ]
    refine wpL_val ?v84 rfl (by rfl) (fun wq hq => ?y84) ?z84
    case y84 => go_simp; with_reducible rfl
    try simp only [Act.put, List.setIfInBounds_toArray, List.set_cons_zero, List.set_cons_succ]
    refine wpL_val ?v85 rfl (by rfl) (fun wq hq => ?y85) ?z85
    case y85 => go_simp; with_reducible rfl
    try simp only [Act.put, List.setIfInBounds_toArray, List.set_cons_zero, List.set_cons_succ]
    refine wpL_val (.agg lx.toArray) rfl (by rfl) (fun wq hq => quiet_ld 23 _ rfl _ _ rfl lx _ (range_below HRX.out hq hgl) huR.out rfl lx_LR.out) ?_
    try simp only [Act.put, List.setIfInBounds_toArray, List.set_cons_zero, List.set_cons_succ]
    refine wpL_val (.bool (!true)) rfl (by rfl) (fun wq hq => quiet_neq 23 _ _ _ rfl _ _ rfl rfl guardR true ((eqlR dx dx HDX.out HDX.out _ _ HLX.out HLX.out wq).trans (by rw [decide_eq_true rfl]))) ?_
    try simp only [Act.put, List.setIfInBounds_toArray, List.set_cons_zero, List.set_cons_succ]
    refine wpL_val ?v88 rfl (by rfl) (fun wq hq => ?y88) ?z88
    case y88 => go_simp; with_reducible rfl
    try simp only [Act.put, List.setIfInBounds_toArray, List.set_cons_zero, List.set_cons_succ]
    refine wpL_val ?v89 rfl (by rfl) (fun wq hq => ?y89) ?z89
    case y89 => go_simp; with_reducible rfl
    try simp only [Act.put, List.setIfInBounds_toArray, List.set_cons_zero, List.set_cons_succ]
    refine wpL_val ?v90 rfl (by rfl) (fun wq hq => ?y90) ?z90
    case y90 => go_simp; with_reducible rfl
    try simp only [Act.put, List.setIfInBounds_toArray, List.set_cons_zero, List.set_cons_succ]
    refine wpL_val ?v91 rfl (by rfl) (fun wq hq => ?y91) ?z91
    case y91 => go_simp; with_reducible rfl
    try simp only [Act.put, List.setIfInBounds_toArray, List.set_cons_zero, List.set_cons_succ]
    refine wpL_nil ?_
    intro w11 hw11
    clear HRX HRL HX1
    have HDP := HDP0; have HDQ := HDQ0
    go_upto_region 17 with (fail)
    by_cases hb1 : b < 0
    · have dn : decide (b < 0) = true := decide_eq_true hb1
      obtain ⟨hr1, hr2⟩ := HRB.out (by omega)
      obtain ⟨hp1, hp2⟩ := HPB.out (by omega)
      obtain ⟨hq1, hq2⟩ := HQB.out (by omega)
      subst hr1 hr2 hp1 hp2 hq1 hq2
      go_upto_region 18 with (fail)
      refine wp_region_listed 24 [] (Below w11.heap.size w11) (by decide) (Stable.below w11) (Below.refl _ _) ?_
      simp only [List.range, List.range.loop, opsOf, List.getElem?_cons_succ, List.getElem?_cons_zero, List.drop_succ_cons, List.drop_zero]
      refine wpL_val (.agg lr.toArray) rfl (by rfl) (fun wq hq => quiet_ld 24 _ rfl _ _ rfl lr _ (range_below HAR.out.range (hw11.trans (hq.mono hw11.size)) HAR.out.lt) hu.out rfl lr_L.out) ?_
      try simp only [Act.put, List.setIfInBounds_toArray, List.set_cons_zero, List.set_cons_succ]
      refine wpL_val (.agg (List.replicate 32 (V8 0)).toArray) rfl (by rfl) (fun wq hq => quiet_build0 24 rfl _ built24) ?_
      try simp only [Act.put, List.setIfInBounds_toArray, List.set_cons_zero, List.set_cons_succ]
      refine wpL_val (.bool true) rfl (by rfl) (fun wq hq => quiet_eql 24 _ _ _ rfl _ _ rfl rfl guardD true ((eqlD zd zd zd_len zd_len _ _ HLR.out dv_zd wq).trans (by rw [decide_eq_true rfl]))) ?_
      try simp only [Act.put, List.setIfInBounds_toArray, List.set_cons_zero, List.set_cons_succ]
      refine wpL_val ?v97 rfl (by rfl) (fun wq hq => ?y97) ?z97
      case y97 => go_simp; with_reducible rfl
      try simp only [Act.put, List.setIfInBounds_toArray, List.set_cons_zero, List.set_cons_succ]
      refine wpL_val ?v98 rfl (by rfl) (fun wq hq => ?y98) ?z98
      case y98 => go_simp; with_reducible rfl
      try simp only [Act.put, List.setIfInBounds_toArray, List.set_cons_zero, List.set_cons_succ]
      refine wpL_val ?v99 rfl (by rfl) (fun wq hq => ?y99) ?z99
      case y99 => go_simp; with_reducible rfl
      try simp only [Act.put, List.setIfInBounds_toArray, List.set_cons_zero, List.set_cons_succ]
      refine wpL_val ?v100 rfl (by rfl) (fun wq hq => ?y100) ?z100
      case y100 => go_simp; with_reducible rfl
      try simp only [Act.put, List.setIfInBounds_toArray, List.set_cons_zero, List.set_cons_succ]
      refine wpL_val ?v101 rfl (by rfl) (fun wq hq => ?y101) ?z101
      case y101 => go_simp; with_reducible rfl
      try simp only [Act.put, List.setIfInBounds_toArray, List.set_cons_zero, List.set_cons_succ]
      refine wpL_val ?v102 rfl (by rfl) (fun wq hq => ?y102) ?z102
      case y102 => go_simp; with_reducible rfl
      try simp only [Act.put, List.setIfInBounds_toArray, List.set_cons_zero, List.set_cons_succ]
      refine wpL_val ?v103 rfl (by rfl) (fun wq hq => ?y103) ?z103
      case y103 => go_simp; with_reducible rfl
      try simp only [Act.put, List.setIfInBounds_toArray, List.set_cons_zero, List.set_cons_succ]
      refine wpL_val ?v104 rfl (by rfl) (fun wq hq => ?y104) ?z104
      case y104 => go_simp; with_reducible rfl
      try simp only [Act.put, List.setIfInBounds_toArray, List.set_cons_zero, List.set_cons_succ]
      refine wpL_val ?v105 rfl (by rfl) (fun wq hq => ?y105) ?z105
      case y105 => go_simp; with_reducible rfl
      try simp only [Act.put, List.setIfInBounds_toArray, List.set_cons_zero, List.set_cons_succ]
      refine wpL_val ?v106 rfl (by rfl) (fun wq hq => ?y106) ?z106
      case y106 => go_simp; with_reducible rfl
      try simp only [Act.put, List.setIfInBounds_toArray, List.set_cons_zero, List.set_cons_succ]
      refine wpL_val ?v107 rfl (by rfl) (fun wq hq => ?y107) ?z107
      case y107 => go_simp; with_reducible rfl
      try simp only [Act.put, List.setIfInBounds_toArray, List.set_cons_zero, List.set_cons_succ]
      refine wpL_val ?v108 rfl (by rfl) (fun wq hq => ?y108) ?z108
      case y108 => go_simp; with_reducible rfl
      try simp only [Act.put, List.setIfInBounds_toArray, List.set_cons_zero, List.set_cons_succ]
      refine wpL_val ?v109 rfl (by rfl) (fun wq hq => ?y109) ?z109
      case y109 => go_simp; with_reducible rfl
      try simp only [Act.put, List.setIfInBounds_toArray, List.set_cons_zero, List.set_cons_succ]
      refine wpL_val ?v110 rfl (by rfl) (fun wq hq => ?y110) ?z110
      case y110 => go_simp; with_reducible rfl
      try simp only [Act.put, List.setIfInBounds_toArray, List.set_cons_zero, List.set_cons_succ]
      refine wpL_val ?v111 rfl (by rfl) (fun wq hq => ?y111) ?z111
      case y111 => go_simp; with_reducible rfl
      try simp only [Act.put, List.setIfInBounds_toArray, List.set_cons_zero, List.set_cons_succ]
      refine wpL_val ?v112 rfl (by rfl) (fun wq hq => ?y112) ?z112
      case y112 => go_simp; with_reducible rfl
      try simp only [Act.put, List.setIfInBounds_toArray, List.set_cons_zero, List.set_cons_succ]
      refine wpL_val ?v113 rfl (by rfl) (fun wq hq => ?y113) ?z113
      case y113 => go_simp; with_reducible rfl
      try simp only [Act.put, List.setIfInBounds_toArray, List.set_cons_zero, List.set_cons_succ]
      refine wpL_val ?v114 rfl (by rfl) (fun wq hq => ?y114) ?z114
      case y114 => go_simp; with_reducible rfl
      try simp only [Act.put, List.setIfInBounds_toArray, List.set_cons_zero, List.set_cons_succ]
      refine wpL_val ?v115 rfl (by rfl) (fun wq hq => ?y115) ?z115
      case y115 => go_simp; with_reducible rfl
      try simp only [Act.put, List.setIfInBounds_toArray, List.set_cons_zero, List.set_cons_succ]
      refine wpL_val ?v116 rfl (by rfl) (fun wq hq => ?y116) ?z116
      case y116 => go_simp; with_reducible rfl
      try simp only [Act.put, List.setIfInBounds_toArray, List.set_cons_zero, List.set_cons_succ]
      refine wpL_val ?v117 rfl (by rfl) (fun wq hq => ?y117) ?z117
      case y117 => go_simp; with_reducible rfl
      try simp only [Act.put, List.setIfInBounds_toArray, List.set_cons_zero, List.set_cons_succ]
      refine wpL_nil ?_
      intro we hwe
      have HFIN := hw11.trans (hwe.mono hw11.size)
      go_wp2_with fail
      go_ret
      exact ⟨rfl, HW10.out.trans (HFIN.mono HW10.out.size)⟩
    · by_cases hb2 : (LS.length : Int) < b
      · have dn : decide (b < 0) = false := decide_eq_false hb1
        have dl : decide ((LS.length : Int) < b) = true := decide_eq_true hb2
        obtain ⟨hr1, hr2⟩ := HRB.out (by omega)
        obtain ⟨hp1, hp2⟩ := HPB.out (by omega)
        obtain ⟨hq1, hq2⟩ := HQB.out (by omega)
        subst hr1 hr2 hp1 hp2 hq1 hq2
        go_upto_region 18 with (fail)
        refine wp_region_listed 24 [] (Below w11.heap.size w11) (by decide) (Stable.below w11) (Below.refl _ _) ?_
        simp only [List.range, List.range.loop, opsOf, List.getElem?_cons_succ, List.getElem?_cons_zero, List.drop_succ_cons, List.drop_zero]
        refine wpL_val (.agg lr.toArray) rfl (by rfl) (fun wq hq => quiet_ld 24 _ rfl _ _ rfl lr _ (range_below HAR.out.range (hw11.trans (hq.mono hw11.size)) HAR.out.lt) hu.out rfl lr_L.out) ?_
        try simp only [Act.put, List.setIfInBounds_toArray, List.set_cons_zero, List.set_cons_succ]
        refine wpL_val (.agg (List.replicate 32 (V8 0)).toArray) rfl (by rfl) (fun wq hq => quiet_build0 24 rfl _ built24) ?_
        try simp only [Act.put, List.setIfInBounds_toArray, List.set_cons_zero, List.set_cons_succ]
        refine wpL_val (.bool true) rfl (by rfl) (fun wq hq => quiet_eql 24 _ _ _ rfl _ _ rfl rfl guardD true ((eqlD zd zd zd_len zd_len _ _ HLR.out dv_zd wq).trans (by rw [decide_eq_true rfl]))) ?_
        try simp only [Act.put, List.setIfInBounds_toArray, List.set_cons_zero, List.set_cons_succ]
        refine wpL_val ?v123 rfl (by rfl) (fun wq hq => ?y123) ?z123
        case y123 => go_simp; with_reducible rfl
        try simp only [Act.put, List.setIfInBounds_toArray, List.set_cons_zero, List.set_cons_succ]
        refine wpL_val ?v124 rfl (by rfl) (fun wq hq => ?y124) ?z124
        case y124 => go_simp; with_reducible rfl
        try simp only [Act.put, List.setIfInBounds_toArray, List.set_cons_zero, List.set_cons_succ]
        refine wpL_val ?v125 rfl (by rfl) (fun wq hq => ?y125) ?z125
        case y125 => go_simp; with_reducible rfl
        try simp only [Act.put, List.setIfInBounds_toArray, List.set_cons_zero, List.set_cons_succ]
        refine wpL_val ?v126 rfl (by rfl) (fun wq hq => ?y126) ?z126
        case y126 => go_simp; with_reducible rfl
        try simp only [Act.put, List.setIfInBounds_toArray, List.set_cons_zero, List.set_cons_succ]
        refine wpL_val ?v127 rfl (by rfl) (fun wq hq => ?y127) ?z127
        case y127 => go_simp; with_reducible rfl
        try simp only [Act.put, List.setIfInBounds_toArray, List.set_cons_zero, List.set_cons_succ]
        refine wpL_val ?v128 rfl (by rfl) (fun wq hq => ?y128) ?z128
        case y128 => go_simp; with_reducible rfl
        try simp only [Act.put, List.setIfInBounds_toArray, List.set_cons_zero, List.set_cons_succ]
        refine wpL_val ?v129 rfl (by rfl) (fun wq hq => ?y129) ?z129
        case y129 => go_simp; with_reducible rfl
        try simp only [Act.put, List.setIfInBounds_toArray, List.set_cons_zero, List.set_cons_succ]
        refine wpL_val ?v130 rfl (by rfl) (fun wq hq => ?y130) ?z130
        case y130 => go_simp; with_reducible rfl
        try simp only [Act.put, List.setIfInBounds_toArray, List.set_cons_zero, List.set_cons_succ]
        refine wpL_val ?v131 rfl (by rfl) (fun wq hq => ?y131) ?z131
        case y131 => go_simp; with_reducible rfl
        try simp only [Act.put, List.setIfInBounds_toArray, List.set_cons_zero, List.set_cons_succ]
        refine wpL_val ?v132 rfl (by rfl) (fun wq hq => ?y132) ?z132
        case y132 => go_simp; with_reducible rfl
        try simp only [Act.put, List.setIfInBounds_toArray, List.set_cons_zero, List.set_cons_succ]
        refine wpL_val ?v133 rfl (by rfl) (fun wq hq => ?y133) ?z133
        case y133 => go_simp; with_reducible rfl
        try simp only [Act.put, List.setIfInBounds_toArray, List.set_cons_zero, List.set_cons_succ]
        refine wpL_val ?v134 rfl (by rfl) (fun wq hq => ?y134) ?z134
        case y134 => go_simp; with_reducible rfl
        try simp only [Act.put, List.setIfInBounds_toArray, List.set_cons_zero, List.set_cons_succ]
        refine wpL_val ?v135 rfl (by rfl) (fun wq hq => ?y135) ?z135
        case y135 => go_simp; with_reducible rfl
        try simp only [Act.put, List.setIfInBounds_toArray, List.set_cons_zero, List.set_cons_succ]
        refine wpL_val ?v136 rfl (by rfl) (fun wq hq => ?y136) ?z136
        case y136 => go_simp; with_reducible rfl
        try simp only [Act.put, List.setIfInBounds_toArray, List.set_cons_zero, List.set_cons_succ]
        refine wpL_val ?v137 rfl (by rfl) (fun wq hq => ?y137) ?z137
        case y137 => go_simp; with_reducible rfl
        try simp only [Act.put, List.setIfInBounds_toArray, List.set_cons_zero, List.set_cons_succ]
        refine wpL_val ?v138 rfl (by rfl) (fun wq hq => ?y138) ?z138
        case y138 => go_simp; with_reducible rfl
        try simp only [Act.put, List.setIfInBounds_toArray, List.set_cons_zero, List.set_cons_succ]
        refine wpL_val ?v139 rfl (by rfl) (fun wq hq => ?y139) ?z139
        case y139 => go_simp; with_reducible rfl
        try simp only [Act.put, List.setIfInBounds_toArray, List.set_cons_zero, List.set_cons_succ]
        refine wpL_val ?v140 rfl (by rfl) (fun wq hq => ?y140) ?z140
        case y140 => go_simp; with_reducible rfl
        try simp only [Act.put, List.setIfInBounds_toArray, List.set_cons_zero, List.set_cons_succ]
        refine wpL_val ?v141 rfl (by rfl) (fun wq hq => ?y141) ?z141
        case y141 => go_simp; with_reducible rfl
        try simp only [Act.put, List.setIfInBounds_toArray, List.set_cons_zero, List.set_cons_succ]
        refine wpL_val ?v142 rfl (by rfl) (fun wq hq => ?y142) ?z142
        case y142 => go_simp; with_reducible rfl
        try simp only [Act.put, List.setIfInBounds_toArray, List.set_cons_zero, List.set_cons_succ]
        refine wpL_val ?v143 rfl (by rfl) (fun wq hq => ?y143) ?z143
        case y143 => go_simp; with_reducible rfl
        try simp only [Act.put, List.setIfInBounds_toArray, List.set_cons_zero, List.set_cons_succ]
        refine wpL_nil ?_
        intro we hwe
        have HFIN := hw11.trans (hwe.mono hw11.size)
        go_wp2_with fail
        go_ret
        exact ⟨rfl, HW10.out.trans (HFIN.mono HW10.out.size)⟩
      · have dn : decide (b < 0) = false := decide_eq_false hb1
        have dl : decide ((LS.length : Int) < b) = false := decide_eq_false hb2
        obtain ⟨n, rfl⟩ := Int.eq_ofNat_of_zero_le (show 0 ≤ b by omega)
        have hn : n ≤ LS.length := by omega
        obtain ⟨hr1, hr2⟩ := HRG.out ⟨by omega, by omega⟩
        rw [Int.toNat_natCast] at hr1
        subst hr1 hr2
        have hcn := (TreesA.Digs.cut HD10.out hn).1
        have hcd := Lib.hid (TreesA.Digs.cut (HD10.out.below hw11 (Nat.le_refl _)) hn).2
        have hcapi : ¬ (cl : Int) < (n : Int) := by omega
        have hrootn := fun v w hV => rootE_any (LS.take n) v w (by rw [List.length_take]; omega) hV
        rw [HLR.out] at hrootn
        have htl : (LS.take n).length = n := by rw [List.length_take]; omega
        have hmtl := mtree_length (LS.take n) (fun d hd => HALL.out d (List.mem_of_mem_take hd))
        go_upto_region 19 with (fail)
        refine wp_region_all [] [0, 1, 2, 3, 4, 5, 6, 7, 8, 9] (Below w11.heap.size w11) (Stable.below w11) (Below.refl _ _).drew (by kernel_rfl) (by kernel_rfl) ?_
        simp only [opsOf, List.getElem?_cons_succ, List.getElem?_cons_zero, List.drop_succ_cons, List.drop_zero]
        refine wpL_val (.agg lr.toArray) rfl (by rfl) (fun wq hq => quiet_ld 24 _ rfl _ _ rfl lr _ (range_below HAR.out.range (hw11.trans (hq.mono hw11.size)) HAR.out.lt) hu.out rfl lr_L.out) ?_
        try simp only [Act.put, List.setIfInBounds_toArray, List.set_cons_zero, List.set_cons_succ]
        refine wpL_val ?v147 rfl (by rfl) (fun wq hq => ?y147) ?z147
        case y147 => go_simp; with_reducible rfl
        try simp only [Act.put, List.setIfInBounds_toArray, List.set_cons_zero, List.set_cons_succ]
        refine wpL_val ?v148 rfl (by rfl) (fun wq hq => ?y148) ?z148
        case y148 => go_simp; with_reducible rfl
        try simp only [Act.put, List.setIfInBounds_toArray, List.set_cons_zero, List.set_cons_succ]
        refine wpL_val ?v149 rfl (by rfl) (fun wq hq => ?y149) ?z149
        case y149 => go_simp; with_reducible rfl
        try simp only [Act.put, List.setIfInBounds_toArray, List.set_cons_zero, List.set_cons_succ]
        refine wpL_val ?v150 rfl (by rfl) (fun wq hq => ?y150) ?z150
        case y150 => go_simp; exact hrootn _ _ (hcd.out.below hq (Nat.le_refl _))
        try simp only [Act.put, List.setIfInBounds_toArray, List.set_cons_zero, List.set_cons_succ]
        refine wpL_val (.bool (!true)) rfl (by rfl) (fun wq hq => quiet_neq 23 _ _ _ rfl _ _ rfl rfl guardR true ((eqlR (mtree (LS.take n)) (mtree (LS.take n)) hmtl hmtl _ _ HLR.out HLR.out wq).trans (by rw [decide_eq_true rfl]))) ?_
        try simp only [Act.put, List.setIfInBounds_toArray, List.set_cons_zero, List.set_cons_succ]
        refine wpL_val ?v152 rfl (by rfl) (fun wq hq => ?y152) ?z152
        case y152 => go_simp; with_reducible rfl
        try simp only [Act.put, List.setIfInBounds_toArray, List.set_cons_zero, List.set_cons_succ]
        refine wpL_val ?v153 rfl (by rfl) (fun wq hq => ?y153) ?z153
        case y153 => go_simp; with_reducible rfl
        try simp only [Act.put, List.setIfInBounds_toArray, List.set_cons_zero, List.set_cons_succ]
        refine wpL_val ?v154 rfl (by rfl) (fun wq hq => ?y154) ?z154
        case y154 => go_simp; with_reducible rfl
        try simp only [Act.put, List.setIfInBounds_toArray, List.set_cons_zero, List.set_cons_succ]
        refine wpL_val ?v155 rfl (by rfl) (fun wq hq => ?y155) ?z155
        case y155 => go_simp; with_reducible rfl
        try simp only [Act.put, List.setIfInBounds_toArray, List.set_cons_zero, List.set_cons_succ]
        refine wpL_nil ?_
        intro wf hwf
        have hWF := hw11.trans (hwf.mono hw11.size)
        have HDN := Lib.hid (hcd.out.below hwf (Nat.le_refl _))
        clear hcd hrootn hmtl htl
        by_cases hab : (k : Int) < 0 ∨ (n : Int) < (k : Int)
        · obtain ⟨hp1, hp2⟩ := HPB.out (by omega)
          obtain ⟨hq1, hq2⟩ := HQB.out (by omega)
          subst hp1 hp2 hq1 hq2
          by_cases ha1 : (k : Int) < 0
          · exfalso; omega
          · have da : decide ((k : Int) < 0) = false := decide_eq_false ha1
            have ha2 : (n : Int) < (k : Int) := by omega
            have db : decide ((n : Int) < (k : Int)) = true := decide_eq_true ha2
            go_upto_region 22 with (fail)
            refine wp_region_listed 15 [] (Below wf.heap.size wf) (by decide) (Stable.below wf) (Below.refl _ _) ?_
            simp only [List.range, List.range.loop, opsOf, List.getElem?_cons_succ, List.getElem?_cons_zero, List.drop_succ_cons, List.drop_zero]
            refine wpL_val ?v158 rfl (by rfl) (fun wq hq => ?y158) ?z158
            case y158 => go_simp; with_reducible rfl
            try simp only [Act.put, List.setIfInBounds_toArray, List.set_cons_zero, List.set_cons_succ]
            refine wpL_val ?v159 rfl (by rfl) (fun wq hq => ?y159) ?z159
            case y159 => go_simp; with_reducible rfl
            try simp only [Act.put, List.setIfInBounds_toArray, List.set_cons_zero, List.set_cons_succ]
            refine wpL_val ?v160 rfl (by rfl) (fun wq hq => ?y160) ?z160
            case y160 => go_simp; with_reducible rfl
            try simp only [Act.put, List.setIfInBounds_toArray, List.set_cons_zero, List.set_cons_succ]
            refine wpL_val ?v161 rfl (by rfl) (fun wq hq => ?y161) ?z161
            case y161 => go_simp; with_reducible rfl
            try simp only [Act.put, List.setIfInBounds_toArray, List.set_cons_zero, List.set_cons_succ]
            refine wpL_val ?v162 rfl (by rfl) (fun wq hq => ?y162) ?z162
            case y162 => go_simp; with_reducible rfl
            try simp only [Act.put, List.setIfInBounds_toArray, List.set_cons_zero, List.set_cons_succ]
            refine wpL_val ?v163 rfl (by rfl) (fun wq hq => ?y163) ?z163
            case y163 => go_simp; with_reducible rfl
            try simp only [Act.put, List.setIfInBounds_toArray, List.set_cons_zero, List.set_cons_succ]
            refine wpL_val ?v164 rfl (by rfl) (fun wq hq => ?y164) ?z164
            case y164 => go_simp; with_reducible rfl
            try simp only [Act.put, List.setIfInBounds_toArray, List.set_cons_zero, List.set_cons_succ]
            refine wpL_val ?v165 rfl (by rfl) (fun wq hq => ?y165) ?z165
            case y165 => go_simp; with_reducible rfl
            try simp only [Act.put, List.setIfInBounds_toArray, List.set_cons_zero, List.set_cons_succ]
            refine wpL_val ?v166 rfl (by rfl) (fun wq hq => ?y166) ?z166
            case y166 => go_simp; with_reducible rfl
            try simp only [Act.put, List.setIfInBounds_toArray, List.set_cons_zero, List.set_cons_succ]
            refine wpL_val ?v167 rfl (by rfl) (fun wq hq => ?y167) ?z167
            case y167 => go_simp; with_reducible rfl
            try simp only [Act.put, List.setIfInBounds_toArray, List.set_cons_zero, List.set_cons_succ]
            refine wpL_val ?v168 rfl (by rfl) (fun wq hq => ?y168) ?z168
            case y168 => go_simp; with_reducible rfl
            try simp only [Act.put, List.setIfInBounds_toArray, List.set_cons_zero, List.set_cons_succ]
            refine wpL_val ?v169 rfl (by rfl) (fun wq hq => ?y169) ?z169
            case y169 => go_simp; with_reducible rfl
            try simp only [Act.put, List.setIfInBounds_toArray, List.set_cons_zero, List.set_cons_succ]
            refine wpL_val ?v170 rfl (by rfl) (fun wq hq => ?y170) ?z170
            case y170 => go_simp; with_reducible rfl
            try simp only [Act.put, List.setIfInBounds_toArray, List.set_cons_zero, List.set_cons_succ]
            refine wpL_val ?v171 rfl (by rfl) (fun wq hq => ?y171) ?z171
            case y171 => go_simp; with_reducible rfl
            try simp only [Act.put, List.setIfInBounds_toArray, List.set_cons_zero, List.set_cons_succ]
            refine wpL_val ?v172 rfl (by rfl) (fun wq hq => ?y172) ?z172
            case y172 => go_simp; with_reducible rfl
            try simp only [Act.put, List.setIfInBounds_toArray, List.set_cons_zero, List.set_cons_succ]
            refine wpL_nil ?_
            intro we hwe
            have HFIN := hWF.trans (hwe.mono hWF.size)
            go_wp2_with fail
            go_ret
            exact ⟨rfl, HW10.out.trans (HFIN.mono HW10.out.size)⟩
        · have ha1 : ¬ (k : Int) < 0 := by omega
          have da : decide ((k : Int) < 0) = false := decide_eq_false ha1
          obtain ⟨m, rfl⟩ : ∃ m : Nat, m = k := ⟨_, rfl⟩
          have hmn : m ≤ n := by omega
          have ha2 : ¬ (n : Int) < (m : Int) := by omega
          have db : decide ((n : Int) < (m : Int)) = false := decide_eq_false ha2
          obtain ⟨hq1, hq2⟩ := HQG.out ⟨by omega, by omega, by omega⟩
          rw [Int.toNat_natCast, Int.toNat_natCast] at hq1
          subst hq2
          have hextn := fun v w hV => ExtnR_any LS HALL.out (by omega) m n v w hmn hn hV
          rw [← hq1] at hextn
          have hbackq := fun v w hV => back_any qs v w (by omega) hV
          have hsameq := fun v1 v2 w h1 h2 => same_any qs v1 v2 w (by omega) h1 h2
          have HQ1 := Lib.hid hq1
          clear hq1
          go_upto_region 23 with (fail)
          refine wp_region_all [4, 9, 10] [0, 1, 2, 3, 5, 6, 7, 8, 4, 9, 10, 11, 12] (Below wf.heap.size wf) (Stable.below wf) (Below.refl _ _).drew (by kernel_rfl) (by kernel_rfl) ?_
          simp only [opsOf, List.getElem?_cons_succ, List.getElem?_cons_zero, List.drop_succ_cons, List.drop_zero]
          refine wpL_val ?v175 rfl (by rfl) (fun wq hq => ?y175) ?z175
          case y175 => go_simp; with_reducible rfl
          try simp only [Act.put, List.setIfInBounds_toArray, List.set_cons_zero, List.set_cons_succ]
          refine wpL_val ?v176 rfl (by rfl) (fun wq hq => ?y176) ?z176
          case y176 => go_simp; with_reducible rfl
          try simp only [Act.put, List.setIfInBounds_toArray, List.set_cons_zero, List.set_cons_succ]
          refine wpL_val ?v177 rfl (by rfl) (fun wq hq => ?y177) ?z177
          case y177 => go_simp; with_reducible rfl
          try simp only [Act.put, List.setIfInBounds_toArray, List.set_cons_zero, List.set_cons_succ]
          refine wpL_val ?v178 rfl (by rfl) (fun wq hq => ?y178) ?z178
          case y178 => go_simp; with_reducible rfl
          try simp only [Act.put, List.setIfInBounds_toArray, List.set_cons_zero, List.set_cons_succ]
          refine wpL_val ?v179 rfl (by rfl) (fun wq hq => ?y179) ?z179
          case y179 => go_simp; with_reducible rfl
          try simp only [Act.put, List.setIfInBounds_toArray, List.set_cons_zero, List.set_cons_succ]
          refine wpL_val ?v180 rfl (by rfl) (fun wq hq => ?y180) ?z180
          case y180 => go_simp; with_reducible rfl
          try simp only [Act.put, List.setIfInBounds_toArray, List.set_cons_zero, List.set_cons_succ]
          refine wpL_val ?v181 rfl (by rfl) (fun wq hq => ?y181) ?z181
          case y181 => go_simp; with_reducible rfl
          try simp only [Act.put, List.setIfInBounds_toArray, List.set_cons_zero, List.set_cons_succ]
          refine wpL_val ?v182 rfl (by rfl) (fun wq hq => ?y182) ?z182
          case y182 => go_simp; with_reducible rfl
          try simp only [Act.put, List.setIfInBounds_toArray, List.set_cons_zero, List.set_cons_succ]
          refine wpL_made (fun v => ∃ a c, v = .slice a qs.length c) (fun v w => Digs w v qs) rfl (by rfl) (Stable.below wf) (fun _ h => h) (stabDigs qs) (fun wq hq => ?y183) ?_
          case y183 => unfold genAt; go_simp; refine (hbackq _ _ (HDQ.out.below (hWF.trans (hq.mono hWF.size)) (Nat.le_refl _))).mono ?_; rintro e wz ⟨⟨vz, rfl, hV⟩, hb⟩; exact ⟨vz, rfl, hV.shape, hV, hb⟩
          intro v4 hv4; obtain ⟨a4, c4, rfl⟩ := hv4
          try simp only [Act.put, List.setIfInBounds_toArray, List.set_cons_zero, List.set_cons_succ]
          refine wpL_made (fun v => ∃ a c, v = .slice a qs.length c) (fun v w => Digs w v qs) rfl (by rfl) (Stable.made (Stable.below wf) (stabDigs qs _)) (fun _ h => h.1) (stabDigs qs) (fun wq hq => ?y184) ?_
          case y184 => unfold genAt; go_simp; refine (hextn _ _ (HDN.out.below hq.1 (Nat.le_refl _))).mono ?_; rintro e wz ⟨vz, rfl, hV, hb⟩; exact ⟨vz, rfl, hV.shape, hV, hb⟩
          intro v9 hv9; obtain ⟨a9, c9, rfl⟩ := hv9
          try simp only [Act.put, List.setIfInBounds_toArray, List.set_cons_zero, List.set_cons_succ]
          refine wpL_one ?v185 rfl (by rfl) (Stable.made (Stable.made (Stable.below wf) (stabDigs qs _)) (stabDigs qs _)) (fun _ h => h.1.1) (fun wq hq => ?y185) ?z185
          case y185 => go_simp; exact hsameq _ _ _ hq.1.2 hq.2
          try simp only [Act.put, List.setIfInBounds_toArray, List.set_cons_zero, List.set_cons_succ]
          refine wpL_val ?v186 rfl (by rfl) (fun wq hq => ?y186) ?z186
          case y186 => go_simp; with_reducible rfl
          try simp only [Act.put, List.setIfInBounds_toArray, List.set_cons_zero, List.set_cons_succ]
          refine wpL_val ?v187 rfl (by rfl) (fun wq hq => ?y187) ?z187
          case y187 => go_simp; with_reducible rfl
          try simp only [Act.put, List.setIfInBounds_toArray, List.set_cons_zero, List.set_cons_succ]
          refine wpL_nil ?_
          intro wg0 hwg0
          have hwg := hwg0.1.1
          have hWG := hWF.trans (hwg.mono hWF.size)
          have HDG := Lib.hid (HDN.out.below hwg (Nat.le_refl _))
          clear hwg0 hwg hextn hbackq hsameq HDN
          by_cases hmne : m = n
          · have hmi : (m : Int) = (n : Int) := by omega
            obtain ⟨hp1, hp2⟩ := HPB.out (by omega)
            clear hmi
            subst hp1 hp2 hmne
            go_upto_region 26 with (fail)
            refine wp_region_listed 8 [] (Below wg0.heap.size wg0) (by decide) (Stable.below wg0) (Below.refl _ _) ?_
            simp only [List.range, List.range.loop, opsOf, List.getElem?_cons_succ, List.getElem?_cons_zero, List.drop_succ_cons, List.drop_zero]
            refine wpL_val ?v190 rfl (by rfl) (fun wq hq => ?y190) ?z190
            case y190 => go_simp; with_reducible rfl
            try simp only [Act.put, List.setIfInBounds_toArray, List.set_cons_zero, List.set_cons_succ]
            refine wpL_val ?v191 rfl (by rfl) (fun wq hq => ?y191) ?z191
            case y191 => go_simp; with_reducible rfl
            try simp only [Act.put, List.setIfInBounds_toArray, List.set_cons_zero, List.set_cons_succ]
            refine wpL_val ?v192 rfl (by rfl) (fun wq hq => ?y192) ?z192
            case y192 => go_simp; with_reducible rfl
            try simp only [Act.put, List.setIfInBounds_toArray, List.set_cons_zero, List.set_cons_succ]
            refine wpL_val ?v193 rfl (by rfl) (fun wq hq => ?y193) ?z193
            case y193 => go_simp; with_reducible rfl
            try simp only [Act.put, List.setIfInBounds_toArray, List.set_cons_zero, List.set_cons_succ]
            refine wpL_val ?v194 rfl (by rfl) (fun wq hq => ?y194) ?z194
            case y194 => go_simp; with_reducible rfl
            try simp only [Act.put, List.setIfInBounds_toArray, List.set_cons_zero, List.set_cons_succ]
            refine wpL_val ?v195 rfl (by rfl) (fun wq hq => ?y195) ?z195
            case y195 => go_simp; with_reducible rfl
            try simp only [Act.put, List.setIfInBounds_toArray, List.set_cons_zero, List.set_cons_succ]
            refine wpL_val ?v196 rfl (by rfl) (fun wq hq => ?y196) ?z196
            case y196 => go_simp; with_reducible rfl
            try simp only [Act.put, List.setIfInBounds_toArray, List.set_cons_zero, List.set_cons_succ]
            refine wpL_val ?v197 rfl (by rfl) (fun wq hq => ?y197) ?z197
            case y197 => go_simp; with_reducible rfl
            try simp only [Act.put, List.setIfInBounds_toArray, List.set_cons_zero, List.set_cons_succ]
            refine wpL_nil ?_
            intro we hwe
            have HFIN := hWG.trans (hwe.mono hWG.size)
            go_wp2_with fail
            go_ret
            exact ⟨rfl, HW10.out.trans (HFIN.mono HW10.out.size)⟩
          · have hmi : ¬ (m : Int) = (n : Int) := by omega
            obtain ⟨hp1, hp2⟩ := HPG.out ⟨by omega, by omega, by omega⟩
            rw [Int.toNat_natCast, Int.toNat_natCast] at hp1
            subst hp2
            have hpathn := fun v w hV => PathR_any LS HALL.out (by omega) m n v w (by omega) hn hV
            rw [← hp1] at hpathn
            have hbackp := fun v w hV => back_any ps v w (by omega) hV
            have hsamep := fun v1 v2 w h1 h2 => same_any ps v1 v2 w (by omega) h1 h2
            have HP1 := Lib.hid hp1
            clear hp1
            go_upto_region 27 with (fail)
            refine wp_region_all [4, 9, 10] [0, 1, 2, 3, 5, 6, 7, 8, 4, 9, 10, 11, 12] (Below wg0.heap.size wg0) (Stable.below wg0) (Below.refl _ _).drew (by kernel_rfl) (by kernel_rfl) ?_
            simp only [opsOf, List.getElem?_cons_succ, List.getElem?_cons_zero, List.drop_succ_cons, List.drop_zero]
            refine wpL_val ?v200 rfl (by rfl) (fun wq hq => ?y200) ?z200
            case y200 => go_simp; with_reducible rfl
            try simp only [Act.put, List.setIfInBounds_toArray, List.set_cons_zero, List.set_cons_succ]
            refine wpL_val ?v201 rfl (by rfl) (fun wq hq => ?y201) ?z201
            case y201 => go_simp; with_reducible rfl
            try simp only [Act.put, List.setIfInBounds_toArray, List.set_cons_zero, List.set_cons_succ]
            refine wpL_val ?v202 rfl (by rfl) (fun wq hq => ?y202) ?z202
            case y202 => go_simp; with_reducible rfl
            try simp only [Act.put, List.setIfInBounds_toArray, List.set_cons_zero, List.set_cons_succ]
            refine wpL_val ?v203 rfl (by rfl) (fun wq hq => ?y203) ?z203
            case y203 => go_simp; with_reducible rfl
            try simp only [Act.put, List.setIfInBounds_toArray, List.set_cons_zero, List.set_cons_succ]
            refine wpL_val ?v204 rfl (by rfl) (fun wq hq => ?y204) ?z204
            case y204 => go_simp; with_reducible rfl
            try simp only [Act.put, List.setIfInBounds_toArray, List.set_cons_zero, List.set_cons_succ]
            refine wpL_val ?v205 rfl (by rfl) (fun wq hq => ?y205) ?z205
            case y205 => go_simp; with_reducible rfl
            try simp only [Act.put, List.setIfInBounds_toArray, List.set_cons_zero, List.set_cons_succ]
            refine wpL_val ?v206 rfl (by rfl) (fun wq hq => ?y206) ?z206
            case y206 => go_simp; with_reducible rfl
            try simp only [Act.put, List.setIfInBounds_toArray, List.set_cons_zero, List.set_cons_succ]
            refine wpL_val ?v207 rfl (by rfl) (fun wq hq => ?y207) ?z207
            case y207 => go_simp; with_reducible rfl
            try simp only [Act.put, List.setIfInBounds_toArray, List.set_cons_zero, List.set_cons_succ]
            refine wpL_made (fun v => ∃ a c, v = .slice a ps.length c) (fun v w => Digs w v ps) rfl (by rfl) (Stable.below wg0) (fun _ h => h) (stabDigs ps) (fun wq hq => ?y208) ?_
            case y208 => unfold genAt; go_simp; refine (hbackp _ _ (HDP.out.below (hWG.trans (hq.mono hWG.size)) (Nat.le_refl _))).mono ?_; rintro e wz ⟨⟨vz, rfl, hV⟩, hb⟩; exact ⟨vz, rfl, hV.shape, hV, hb⟩
            intro v4 hv4; obtain ⟨a4, c4, rfl⟩ := hv4
            try simp only [Act.put, List.setIfInBounds_toArray, List.set_cons_zero, List.set_cons_succ]
            refine wpL_made (fun v => ∃ a c, v = .slice a ps.length c) (fun v w => Digs w v ps) rfl (by rfl) (Stable.made (Stable.below wg0) (stabDigs ps _)) (fun _ h => h.1) (stabDigs ps) (fun wq hq => ?y209) ?_
            case y209 => unfold genAt; go_simp; refine (hpathn _ _ (HDG.out.below hq.1 (Nat.le_refl _))).mono ?_; rintro e wz ⟨vz, rfl, hV, hb⟩; exact ⟨vz, rfl, hV.shape, hV, hb⟩
            intro v9 hv9; obtain ⟨a9, c9, rfl⟩ := hv9
            try simp only [Act.put, List.setIfInBounds_toArray, List.set_cons_zero, List.set_cons_succ]
            refine wpL_one ?v210 rfl (by rfl) (Stable.made (Stable.made (Stable.below wg0) (stabDigs ps _)) (stabDigs ps _)) (fun _ h => h.1.1) (fun wq hq => ?y210) ?z210
            case y210 => go_simp; exact hsamep _ _ _ hq.1.2 hq.2
            try simp only [Act.put, List.setIfInBounds_toArray, List.set_cons_zero, List.set_cons_succ]
            refine wpL_val ?v211 rfl (by rfl) (fun wq hq => ?y211) ?z211
            case y211 => go_simp; with_reducible rfl
            try simp only [Act.put, List.setIfInBounds_toArray, List.set_cons_zero, List.set_cons_succ]
            refine wpL_val ?v212 rfl (by rfl) (fun wq hq => ?y212) ?z212
            case y212 => go_simp; with_reducible rfl
            try simp only [Act.put, List.setIfInBounds_toArray, List.set_cons_zero, List.set_cons_succ]
            refine wpL_nil ?_
            intro we hwe
            have HFIN := hWG.trans (hwe.1.1.mono hWG.size)
            go_wp2_with fail
            go_ret
            exact ⟨rfl, HW10.out.trans (HFIN.mono HW10.out.size)⟩
  · obtain ⟨hx1, hx2⟩ := HXB.out ha
    subst hx1 hx2
    by_cases ha1 : a < 0
    · have d1 : decide (a < 0) = true := decide_eq_true ha1
      go_upto_region 13 with (fail)
      refine wp_region_listed 7 [] (Below w10.heap.size w10) (by decide) (Stable.below w10) (Below.refl _ _) ?_
      simp only [List.range, List.range.loop, opsOf, List.getElem?_cons_succ, List.getElem?_cons_zero, List.drop_succ_cons, List.drop_zero]
      refine wpL_val (.agg lx.toArray) rfl (by rfl) (fun wq hq => quiet_ld 24 _ rfl _ _ rfl lx _ (range_below HAX.out.range hq HAX.out.lt) hu.out rfl lx_L.out) ?_
      try simp only [Act.put, List.setIfInBounds_toArray, List.set_cons_zero, List.set_cons_succ]
      refine wpL_val (.agg (List.replicate 32 (V8 0)).toArray) rfl (by rfl) (fun wq hq => quiet_build0 24 rfl _ built24) ?_
      try simp only [Act.put, List.setIfInBounds_toArray, List.set_cons_zero, List.set_cons_succ]
      refine wpL_val (.bool (!true)) rfl (by rfl) (fun wq hq => quiet_neq 24 _ _ _ rfl _ _ rfl rfl guardD true ((eqlD zd zd zd_len zd_len _ _ HLX.out dv_zd wq).trans (by rw [decide_eq_true rfl]))) ?_
      try simp only [Act.put, List.setIfInBounds_toArray, List.set_cons_zero, List.set_cons_succ]
      refine wpL_val ?v218 rfl (by rfl) (fun wq hq => ?y218) ?z218
      case y218 => go_simp; with_reducible rfl
      try simp only [Act.put, List.setIfInBounds_toArray, List.set_cons_zero, List.set_cons_succ]
      refine wpL_val ?v219 rfl (by rfl) (fun wq hq => ?y219) ?z219
      case y219 => go_simp; with_reducible rfl
      try simp only [Act.put, List.setIfInBounds_toArray, List.set_cons_zero, List.set_cons_succ]
      refine wpL_val ?v220 rfl (by rfl) (fun wq hq => ?y220) ?z220
      case y220 => go_simp; with_reducible rfl
      try simp only [Act.put, List.setIfInBounds_toArray, List.set_cons_zero, List.set_cons_succ]
      refine wpL_val ?v221 rfl (by rfl) (fun wq hq => ?y221) ?z221
      case y221 => go_simp; with_reducible rfl
      try simp only [Act.put, List.setIfInBounds_toArray, List.set_cons_zero, List.set_cons_succ]
      refine wpL_nil ?_
      intro w11 hw11
      have HDP := HDP0; have HDQ := HDQ0
      go_upto_region 17 with (fail)
      by_cases hb1 : b < 0
      · have dn : decide (b < 0) = true := decide_eq_true hb1
        obtain ⟨hr1, hr2⟩ := HRB.out (by omega)
        obtain ⟨hp1, hp2⟩ := HPB.out (by omega)
        obtain ⟨hq1, hq2⟩ := HQB.out (by omega)
        subst hr1 hr2 hp1 hp2 hq1 hq2
        go_upto_region 18 with (fail)
        refine wp_region_listed 24 [] (Below w11.heap.size w11) (by decide) (Stable.below w11) (Below.refl _ _) ?_
        simp only [List.range, List.range.loop, opsOf, List.getElem?_cons_succ, List.getElem?_cons_zero, List.drop_succ_cons, List.drop_zero]
        refine wpL_val (.agg lr.toArray) rfl (by rfl) (fun wq hq => quiet_ld 24 _ rfl _ _ rfl lr _ (range_below HAR.out.range (hw11.trans (hq.mono hw11.size)) HAR.out.lt) hu.out rfl lr_L.out) ?_
        try simp only [Act.put, List.setIfInBounds_toArray, List.set_cons_zero, List.set_cons_succ]
        refine wpL_val (.agg (List.replicate 32 (V8 0)).toArray) rfl (by rfl) (fun wq hq => quiet_build0 24 rfl _ built24) ?_
        try simp only [Act.put, List.setIfInBounds_toArray, List.set_cons_zero, List.set_cons_succ]
        refine wpL_val (.bool true) rfl (by rfl) (fun wq hq => quiet_eql 24 _ _ _ rfl _ _ rfl rfl guardD true ((eqlD zd zd zd_len zd_len _ _ HLR.out dv_zd wq).trans (by rw [decide_eq_true rfl]))) ?_
        try simp only [Act.put, List.setIfInBounds_toArray, List.set_cons_zero, List.set_cons_succ]
        refine wpL_val ?v227 rfl (by rfl) (fun wq hq => ?y227) ?z227
        case y227 => go_simp; with_reducible rfl
        try simp only [Act.put, List.setIfInBounds_toArray, List.set_cons_zero, List.set_cons_succ]
        refine wpL_val ?v228 rfl (by rfl) (fun wq hq => ?y228) ?z228
        case y228 => go_simp; with_reducible rfl
        try simp only [Act.put, List.setIfInBounds_toArray, List.set_cons_zero, List.set_cons_succ]
        refine wpL_val ?v229 rfl (by rfl) (fun wq hq => ?y229) ?z229
        case y229 => go_simp; with_reducible rfl
        try simp only [Act.put, List.setIfInBounds_toArray, List.set_cons_zero, List.set_cons_succ]
        refine wpL_val ?v230 rfl (by rfl) (fun wq hq => ?y230) ?z230
        case y230 => go_simp; with_reducible rfl
        try simp only [Act.put, List.setIfInBounds_toArray, List.set_cons_zero, List.set_cons_succ]
        refine wpL_val ?v231 rfl (by rfl) (fun wq hq => ?y231) ?z231
        case y231 => go_simp; with_reducible rfl
        try simp only [Act.put, List.setIfInBounds_toArray, List.set_cons_zero, List.set_cons_succ]
        refine wpL_val ?v232 rfl (by rfl) (fun wq hq => ?y232) ?z232
        case y232 => go_simp; with_reducible rfl
        try simp only [Act.put, List.setIfInBounds_toArray, List.set_cons_zero, List.set_cons_succ]
        refine wpL_val ?v233 rfl (by rfl) (fun wq hq => ?y233) ?z233
        case y233 => go_simp; with_reducible rfl
        try simp only [Act.put, List.setIfInBounds_toArray, List.set_cons_zero, List.set_cons_succ]
        refine wpL_val ?v234 rfl (by rfl) (fun wq hq => ?y234) ?z234
        case y234 => go_simp; with_reducible rfl
        try simp only [Act.put, List.setIfInBounds_toArray, List.set_cons_zero, List.set_cons_succ]
        refine wpL_val ?v235 rfl (by rfl) (fun wq hq => ?y235) ?z235
        case y235 => go_simp; with_reducible rfl
        try simp only [Act.put, List.setIfInBounds_toArray, List.set_cons_zero, List.set_cons_succ]
        refine wpL_val ?v236 rfl (by rfl) (fun wq hq => ?y236) ?z236
        case y236 => go_simp; with_reducible rfl
        try simp only [Act.put, List.setIfInBounds_toArray, List.set_cons_zero, List.set_cons_succ]
        refine wpL_val ?v237 rfl (by rfl) (fun wq hq => ?y237) ?z237
        case y237 => go_simp; with_reducible rfl
        try simp only [Act.put, List.setIfInBounds_toArray, List.set_cons_zero, List.set_cons_succ]
        refine wpL_val ?v238 rfl (by rfl) (fun wq hq => ?y238) ?z238
        case y238 => go_simp; with_reducible rfl
        try simp only [Act.put, List.setIfInBounds_toArray, List.set_cons_zero, List.set_cons_succ]
        refine wpL_val ?v239 rfl (by rfl) (fun wq hq => ?y239) ?z239
        case y239 => go_simp; with_reducible rfl
        try simp only [Act.put, List.setIfInBounds_toArray, List.set_cons_zero, List.set_cons_succ]
        refine wpL_val ?v240 rfl (by rfl) (fun wq hq => ?y240) ?z240
        case y240 => go_simp; with_reducible rfl
        try simp only [Act.put, List.setIfInBounds_toArray, List.set_cons_zero, List.set_cons_succ]
        refine wpL_val ?v241 rfl (by rfl) (fun wq hq => ?y241) ?z241
        case y241 => go_simp; with_reducible rfl
        try simp only [Act.put, List.setIfInBounds_toArray, List.set_cons_zero, List.set_cons_succ]
        refine wpL_val ?v242 rfl (by rfl) (fun wq hq => ?y242) ?z242
        case y242 => go_simp; with_reducible rfl
        try simp only [Act.put, List.setIfInBounds_toArray, List.set_cons_zero, List.set_cons_succ]
        refine wpL_val ?v243 rfl (by rfl) (fun wq hq => ?y243) ?z243
        case y243 => go_simp; with_reducible rfl
        try simp only [Act.put, List.setIfInBounds_toArray, List.set_cons_zero, List.set_cons_succ]
        refine wpL_val ?v244 rfl (by rfl) (fun wq hq => ?y244) ?z244
        case y244 => go_simp; with_reducible rfl
        try simp only [Act.put, List.setIfInBounds_toArray, List.set_cons_zero, List.set_cons_succ]
        refine wpL_val ?v245 rfl (by rfl) (fun wq hq => ?y245) ?z245
        case y245 => go_simp; with_reducible rfl
        try simp only [Act.put, List.setIfInBounds_toArray, List.set_cons_zero, List.set_cons_succ]
        refine wpL_val ?v246 rfl (by rfl) (fun wq hq => ?y246) ?z246
        case y246 => go_simp; with_reducible rfl
        try simp only [Act.put, List.setIfInBounds_toArray, List.set_cons_zero, List.set_cons_succ]
        refine wpL_val ?v247 rfl (by rfl) (fun wq hq => ?y247) ?z247
        case y247 => go_simp; with_reducible rfl
        try simp only [Act.put, List.setIfInBounds_toArray, List.set_cons_zero, List.set_cons_succ]
        refine wpL_nil ?_
        intro we hwe
        have HFIN := hw11.trans (hwe.mono hw11.size)
        go_wp2_with fail
        go_ret
        exact ⟨rfl, HW10.out.trans (HFIN.mono HW10.out.size)⟩
      · by_cases hb2 : (LS.length : Int) < b
        · have dn : decide (b < 0) = false := decide_eq_false hb1
          have dl : decide ((LS.length : Int) < b) = true := decide_eq_true hb2
          obtain ⟨hr1, hr2⟩ := HRB.out (by omega)
          obtain ⟨hp1, hp2⟩ := HPB.out (by omega)
          obtain ⟨hq1, hq2⟩ := HQB.out (by omega)
          subst hr1 hr2 hp1 hp2 hq1 hq2
          go_upto_region 18 with (fail)
          refine wp_region_listed 24 [] (Below w11.heap.size w11) (by decide) (Stable.below w11) (Below.refl _ _) ?_
          simp only [List.range, List.range.loop, opsOf, List.getElem?_cons_succ, List.getElem?_cons_zero, List.drop_succ_cons, List.drop_zero]
          refine wpL_val (.agg lr.toArray) rfl (by rfl) (fun wq hq => quiet_ld 24 _ rfl _ _ rfl lr _ (range_below HAR.out.range (hw11.trans (hq.mono hw11.size)) HAR.out.lt) hu.out rfl lr_L.out) ?_
          try simp only [Act.put, List.setIfInBounds_toArray, List.set_cons_zero, List.set_cons_succ]
          refine wpL_val (.agg (List.replicate 32 (V8 0)).toArray) rfl (by rfl) (fun wq hq => quiet_build0 24 rfl _ built24) ?_
          try simp only [Act.put, List.setIfInBounds_toArray, List.set_cons_zero, List.set_cons_succ]
          refine wpL_val (.bool true) rfl (by rfl) (fun wq hq => quiet_eql 24 _ _ _ rfl _ _ rfl rfl guardD true ((eqlD zd zd zd_len zd_len _ _ HLR.out dv_zd wq).trans (by rw [decide_eq_true rfl]))) ?_
          try simp only [Act.put, List.setIfInBounds_toArray, List.set_cons_zero, List.set_cons_succ]
          refine wpL_val ?v253 rfl (by rfl) (fun wq hq => ?y253) ?z253
          case y253 => go_simp; with_reducible rfl
          try simp only [Act.put, List.setIfInBounds_toArray, List.set_cons_zero, List.set_cons_succ]
          refine wpL_val ?v254 rfl (by rfl) (fun wq hq => ?y254) ?z254
          case y254 => go_simp; with_reducible rfl
          try simp only [Act.put, List.setIfInBounds_toArray, List.set_cons_zero, List.set_cons_succ]
          refine wpL_val ?v255 rfl (by rfl) (fun wq hq => ?y255) ?z255
          case y255 => go_simp; with_reducible rfl
          try simp only [Act.put, List.setIfInBounds_toArray, List.set_cons_zero, List.set_cons_succ]
          refine wpL_val ?v256 rfl (by rfl) (fun wq hq => ?y256) ?z256
          case y256 => go_simp; with_reducible rfl
          try simp only [Act.put, List.setIfInBounds_toArray, List.set_cons_zero, List.set_cons_succ]
          refine wpL_val ?v257 rfl (by rfl) (fun wq hq => ?y257) ?z257
          case y257 => go_simp; with_reducible rfl
          try simp only [Act.put, List.setIfInBounds_toArray, List.set_cons_zero, List.set_cons_succ]
          refine wpL_val ?v258 rfl (by rfl) (fun wq hq => ?y258) ?z258
          case y258 => go_simp; with_reducible rfl
          try simp only [Act.put, List.setIfInBounds_toArray, List.set_cons_zero, List.set_cons_succ]
          refine wpL_val ?v259 rfl (by rfl) (fun wq hq => ?y259) ?z259
          case y259 => go_simp; with_reducible rfl
          try simp only [Act.put, List.setIfInBounds_toArray, List.set_cons_zero, List.set_cons_succ]
          refine wpL_val ?v260 rfl (by rfl) (fun wq hq => ?y260) ?z260
          case y260 => go_simp; with_reducible rfl
          try simp only [Act.put, List.setIfInBounds_toArray, List.set_cons_zero, List.set_cons_succ]
          refine wpL_val ?v261 rfl (by rfl) (fun wq hq => ?y261) ?z261
          case y261 => go_simp; with_reducible rfl
          try simp only [Act.put, List.setIfInBounds_toArray, List.set_cons_zero, List.set_cons_succ]
          refine wpL_val ?v262 rfl (by rfl) (fun wq hq => ?y262) ?z262
          case y262 => go_simp; with_reducible rfl
          try simp only [Act.put, List.setIfInBounds_toArray, List.set_cons_zero, List.set_cons_succ]
          refine wpL_val ?v263 rfl (by rfl) (fun wq hq => ?y263) ?z263
          case y263 => go_simp; with_reducible rfl
          try simp only [Act.put, List.setIfInBounds_toArray, List.set_cons_zero, List.set_cons_succ]
          refine wpL_val ?v264 rfl (by rfl) (fun wq hq => ?y264) ?z264
          case y264 => go_simp; with_reducible rfl
          try simp only [Act.put, List.setIfInBounds_toArray, List.set_cons_zero, List.set_cons_succ]
          refine wpL_val ?v265 rfl (by rfl) (fun wq hq => ?y265) ?z265
          case y265 => go_simp; with_reducible rfl
          try simp only [Act.put, List.setIfInBounds_toArray, List.set_cons_zero, List.set_cons_succ]
          refine wpL_val ?v266 rfl (by rfl) (fun wq hq => ?y266) ?z266
          case y266 => go_simp; with_reducible rfl
          try simp only [Act.put, List.setIfInBounds_toArray, List.set_cons_zero, List.set_cons_succ]
          refine wpL_val ?v267 rfl (by rfl) (fun wq hq => ?y267) ?z267
          case y267 => go_simp; with_reducible rfl
          try simp only [Act.put, List.setIfInBounds_toArray, List.set_cons_zero, List.set_cons_succ]
          refine wpL_val ?v268 rfl (by rfl) (fun wq hq => ?y268) ?z268
          case y268 => go_simp; with_reducible rfl
          try simp only [Act.put, List.setIfInBounds_toArray, List.set_cons_zero, List.set_cons_succ]
          refine wpL_val ?v269 rfl (by rfl) (fun wq hq => ?y269) ?z269
          case y269 => go_simp; with_reducible rfl
          try simp only [Act.put, List.setIfInBounds_toArray, List.set_cons_zero, List.set_cons_succ]
          refine wpL_val ?v270 rfl (by rfl) (fun wq hq => ?y270) ?z270
          case y270 => go_simp; with_reducible rfl
          try simp only [Act.put, List.setIfInBounds_toArray, List.set_cons_zero, List.set_cons_succ]
          refine wpL_val ?v271 rfl (by rfl) (fun wq hq => ?y271) ?z271
          case y271 => go_simp; with_reducible rfl
          try simp only [Act.put, List.setIfInBounds_toArray, List.set_cons_zero, List.set_cons_succ]
          refine wpL_val ?v272 rfl (by rfl) (fun wq hq => ?y272) ?z272
          case y272 => go_simp; with_reducible rfl
          try simp only [Act.put, List.setIfInBounds_toArray, List.set_cons_zero, List.set_cons_succ]
          refine wpL_val ?v273 rfl (by rfl) (fun wq hq => ?y273) ?z273
          case y273 => go_simp; with_reducible rfl
          try simp only [Act.put, List.setIfInBounds_toArray, List.set_cons_zero, List.set_cons_succ]
          refine wpL_nil ?_
          intro we hwe
          have HFIN := hw11.trans (hwe.mono hw11.size)
          go_wp2_with fail
          go_ret
          exact ⟨rfl, HW10.out.trans (HFIN.mono HW10.out.size)⟩
        · have dn : decide (b < 0) = false := decide_eq_false hb1
          have dl : decide ((LS.length : Int) < b) = false := decide_eq_false hb2
          obtain ⟨n, rfl⟩ := Int.eq_ofNat_of_zero_le (show 0 ≤ b by omega)
          have hn : n ≤ LS.length := by omega
          obtain ⟨hr1, hr2⟩ := HRG.out ⟨by omega, by omega⟩
          rw [Int.toNat_natCast] at hr1
          subst hr1 hr2
          have hcn := (TreesA.Digs.cut HD10.out hn).1
          have hcd := Lib.hid (TreesA.Digs.cut (HD10.out.below hw11 (Nat.le_refl _)) hn).2
          have hcapi : ¬ (cl : Int) < (n : Int) := by omega
          have hrootn := fun v w hV => rootE_any (LS.take n) v w (by rw [List.length_take]; omega) hV
          rw [HLR.out] at hrootn
          have htl : (LS.take n).length = n := by rw [List.length_take]; omega
          have hmtl := mtree_length (LS.take n) (fun d hd => HALL.out d (List.mem_of_mem_take hd))
          go_upto_region 19 with (fail)
          refine wp_region_all [] [0, 1, 2, 3, 4, 5, 6, 7, 8, 9] (Below w11.heap.size w11) (Stable.below w11) (Below.refl _ _).drew (by kernel_rfl) (by kernel_rfl) ?_
          simp only [opsOf, List.getElem?_cons_succ, List.getElem?_cons_zero, List.drop_succ_cons, List.drop_zero]
          refine wpL_val (.agg lr.toArray) rfl (by rfl) (fun wq hq => quiet_ld 24 _ rfl _ _ rfl lr _ (range_below HAR.out.range (hw11.trans (hq.mono hw11.size)) HAR.out.lt) hu.out rfl lr_L.out) ?_
          try simp only [Act.put, List.setIfInBounds_toArray, List.set_cons_zero, List.set_cons_succ]
          refine wpL_val ?v277 rfl (by rfl) (fun wq hq => ?y277) ?z277
          case y277 => go_simp; with_reducible rfl
          try simp only [Act.put, List.setIfInBounds_toArray, List.set_cons_zero, List.set_cons_succ]
          refine wpL_val ?v278 rfl (by rfl) (fun wq hq => ?y278) ?z278
          case y278 => go_simp; with_reducible rfl
          try simp only [Act.put, List.setIfInBounds_toArray, List.set_cons_zero, List.set_cons_succ]
          refine wpL_val ?v279 rfl (by rfl) (fun wq hq => ?y279) ?z279
          case y279 => go_simp; with_reducible rfl
          try simp only [Act.put, List.setIfInBounds_toArray, List.set_cons_zero, List.set_cons_succ]
          refine wpL_val ?v280 rfl (by rfl) (fun wq hq => ?y280) ?z280
          case y280 => go_simp; exact hrootn _ _ (hcd.out.below hq (Nat.le_refl _))
          try simp only [Act.put, List.setIfInBounds_toArray, List.set_cons_zero, List.set_cons_succ]
          refine wpL_val (.bool (!true)) rfl (by rfl) (fun wq hq => quiet_neq 23 _ _ _ rfl _ _ rfl rfl guardR true ((eqlR (mtree (LS.take n)) (mtree (LS.take n)) hmtl hmtl _ _ HLR.out HLR.out wq).trans (by rw [decide_eq_true rfl]))) ?_
          try simp only [Act.put, List.setIfInBounds_toArray, List.set_cons_zero, List.set_cons_succ]
          refine wpL_val ?v282 rfl (by rfl) (fun wq hq => ?y282) ?z282
          case y282 => go_simp; with_reducible rfl
          try simp only [Act.put, List.setIfInBounds_toArray, List.set_cons_zero, List.set_cons_succ]
          refine wpL_val ?v283 rfl (by rfl) (fun wq hq => ?y283) ?z283
          case y283 => go_simp; with_reducible rfl
          try simp only [Act.put, List.setIfInBounds_toArray, List.set_cons_zero, List.set_cons_succ]
          refine wpL_val ?v284 rfl (by rfl) (fun wq hq => ?y284) ?z284
          case y284 => go_simp; with_reducible rfl
          try simp only [Act.put, List.setIfInBounds_toArray, List.set_cons_zero, List.set_cons_succ]
          refine wpL_val ?v285 rfl (by rfl) (fun wq hq => ?y285) ?z285
          case y285 => go_simp; with_reducible rfl
          try simp only [Act.put, List.setIfInBounds_toArray, List.set_cons_zero, List.set_cons_succ]
          refine wpL_nil ?_
          intro wf hwf
          have hWF := hw11.trans (hwf.mono hw11.size)
          have HDN := Lib.hid (hcd.out.below hwf (Nat.le_refl _))
          clear hcd hrootn hmtl htl
          by_cases hab : a < 0 ∨ (n : Int) < a
          · obtain ⟨hp1, hp2⟩ := HPB.out (by omega)
            obtain ⟨hq1, hq2⟩ := HQB.out (by omega)
            subst hp1 hp2 hq1 hq2
            by_cases ha1 : a < 0
            · have da : decide (a < 0) = true := decide_eq_true ha1
              go_upto_region 22 with (fail)
              refine wp_region_listed 15 [] (Below wf.heap.size wf) (by decide) (Stable.below wf) (Below.refl _ _) ?_
              simp only [List.range, List.range.loop, opsOf, List.getElem?_cons_succ, List.getElem?_cons_zero, List.drop_succ_cons, List.drop_zero]
              refine wpL_val ?v288 rfl (by rfl) (fun wq hq => ?y288) ?z288
              case y288 => go_simp; with_reducible rfl
              try simp only [Act.put, List.setIfInBounds_toArray, List.set_cons_zero, List.set_cons_succ]
              refine wpL_val ?v289 rfl (by rfl) (fun wq hq => ?y289) ?z289
              case y289 => go_simp; with_reducible rfl
              try simp only [Act.put, List.setIfInBounds_toArray, List.set_cons_zero, List.set_cons_succ]
              refine wpL_val ?v290 rfl (by rfl) (fun wq hq => ?y290) ?z290
              case y290 => go_simp; with_reducible rfl
              try simp only [Act.put, List.setIfInBounds_toArray, List.set_cons_zero, List.set_cons_succ]
              refine wpL_val ?v291 rfl (by rfl) (fun wq hq => ?y291) ?z291
              case y291 => go_simp; with_reducible rfl
              try simp only [Act.put, List.setIfInBounds_toArray, List.set_cons_zero, List.set_cons_succ]
              refine wpL_val ?v292 rfl (by rfl) (fun wq hq => ?y292) ?z292
              case y292 => go_simp; with_reducible rfl
              try simp only [Act.put, List.setIfInBounds_toArray, List.set_cons_zero, List.set_cons_succ]
              refine wpL_val ?v293 rfl (by rfl) (fun wq hq => ?y293) ?z293
              case y293 => go_simp; with_reducible rfl
              try simp only [Act.put, List.setIfInBounds_toArray, List.set_cons_zero, List.set_cons_succ]
              refine wpL_val ?v294 rfl (by rfl) (fun wq hq => ?y294) ?z294
              case y294 => go_simp; with_reducible rfl
              try simp only [Act.put, List.setIfInBounds_toArray, List.set_cons_zero, List.set_cons_succ]
              refine wpL_val ?v295 rfl (by rfl) (fun wq hq => ?y295) ?z295
              case y295 => go_simp; with_reducible rfl
              try simp only [Act.put, List.setIfInBounds_toArray, List.set_cons_zero, List.set_cons_succ]
              refine wpL_val ?v296 rfl (by rfl) (fun wq hq => ?y296) ?z296
              case y296 => go_simp; with_reducible rfl
              try simp only [Act.put, List.setIfInBounds_toArray, List.set_cons_zero, List.set_cons_succ]
              refine wpL_val ?v297 rfl (by rfl) (fun wq hq => ?y297) ?z297
              case y297 => go_simp; with_reducible rfl
              try simp only [Act.put, List.setIfInBounds_toArray, List.set_cons_zero, List.set_cons_succ]
              refine wpL_val ?v298 rfl (by rfl) (fun wq hq => ?y298) ?z298
              case y298 => go_simp; with_reducible rfl
              try simp only [Act.put, List.setIfInBounds_toArray, List.set_cons_zero, List.set_cons_succ]
              refine wpL_val ?v299 rfl (by rfl) (fun wq hq => ?y299) ?z299
              case y299 => go_simp; with_reducible rfl
              try simp only [Act.put, List.setIfInBounds_toArray, List.set_cons_zero, List.set_cons_succ]
              refine wpL_val ?v300 rfl (by rfl) (fun wq hq => ?y300) ?z300
              case y300 => go_simp; with_reducible rfl
              try simp only [Act.put, List.setIfInBounds_toArray, List.set_cons_zero, List.set_cons_succ]
              refine wpL_val ?v301 rfl (by rfl) (fun wq hq => ?y301) ?z301
              case y301 => go_simp; with_reducible rfl
              try simp only [Act.put, List.setIfInBounds_toArray, List.set_cons_zero, List.set_cons_succ]
              refine wpL_val ?v302 rfl (by rfl) (fun wq hq => ?y302) ?z302
              case y302 => go_simp; with_reducible rfl
              try simp only [Act.put, List.setIfInBounds_toArray, List.set_cons_zero, List.set_cons_succ]
              refine wpL_nil ?_
              intro we hwe
              have HFIN := hWF.trans (hwe.mono hWF.size)
              go_wp2_with fail
              go_ret
              exact ⟨rfl, HW10.out.trans (HFIN.mono HW10.out.size)⟩
            · have da : decide (a < 0) = false := decide_eq_false ha1
              have ha2 : (n : Int) < a := by omega
              have db : decide ((n : Int) < a) = true := decide_eq_true ha2
              go_upto_region 22 with (fail)
              refine wp_region_listed 15 [] (Below wf.heap.size wf) (by decide) (Stable.below wf) (Below.refl _ _) ?_
              simp only [List.range, List.range.loop, opsOf, List.getElem?_cons_succ, List.getElem?_cons_zero, List.drop_succ_cons, List.drop_zero]
              refine wpL_val ?v305 rfl (by rfl) (fun wq hq => ?y305) ?z305
              case y305 => go_simp; with_reducible rfl
              try simp only [Act.put, List.setIfInBounds_toArray, List.set_cons_zero, List.set_cons_succ]
              refine wpL_val ?v306 rfl (by rfl) (fun wq hq => ?y306) ?z306
              case y306 => go_simp; with_reducible rfl
              try simp only [Act.put, List.setIfInBounds_toArray, List.set_cons_zero, List.set_cons_succ]
              refine wpL_val ?v307 rfl (by rfl) (fun wq hq => ?y307) ?z307
              case y307 => go_simp; with_reducible rfl
              try simp only [Act.put, List.setIfInBounds_toArray, List.set_cons_zero, List.set_cons_succ]
              refine wpL_val ?v308 rfl (by rfl) (fun wq hq => ?y308) ?z308
              case y308 => go_simp; with_reducible rfl
              try simp only [Act.put, List.setIfInBounds_toArray, List.set_cons_zero, List.set_cons_succ]
              refine wpL_val ?v309 rfl (by rfl) (fun wq hq => ?y309) ?z309
              case y309 => go_simp; with_reducible rfl
              try simp only [Act.put, List.setIfInBounds_toArray, List.set_cons_zero, List.set_cons_succ]
              refine wpL_val ?v310 rfl (by rfl) (fun wq hq => ?y310) ?z310
              case y310 => go_simp; with_reducible rfl
              try simp only [Act.put, List.setIfInBounds_toArray, List.set_cons_zero, List.set_cons_succ]
              refine wpL_val ?v311 rfl (by rfl) (fun wq hq => ?y311) ?z311
              case y311 => go_simp; with_reducible rfl
              try simp only [Act.put, List.setIfInBounds_toArray, List.set_cons_zero, List.set_cons_succ]
              refine wpL_val ?v312 rfl (by rfl) (fun wq hq => ?y312) ?z312
              case y312 => go_simp; with_reducible rfl
              try simp only [Act.put, List.setIfInBounds_toArray, List.set_cons_zero, List.set_cons_succ]
              refine wpL_val ?v313 rfl (by rfl) (fun wq hq => ?y313) ?z313
              case y313 => go_simp; with_reducible rfl
              try simp only [Act.put, List.setIfInBounds_toArray, List.set_cons_zero, List.set_cons_succ]
              refine wpL_val ?v314 rfl (by rfl) (fun wq hq => ?y314) ?z314
              case y314 => go_simp; with_reducible rfl
              try simp only [Act.put, List.setIfInBounds_toArray, List.set_cons_zero, List.set_cons_succ]
              refine wpL_val ?v315 rfl (by rfl) (fun wq hq => ?y315) ?z315
              case y315 => go_simp; with_reducible rfl
              try simp only [Act.put, List.setIfInBounds_toArray, List.set_cons_zero, List.set_cons_succ]
              refine wpL_val ?v316 rfl (by rfl) (fun wq hq => ?y316) ?z316
              case y316 => go_simp; with_reducible rfl
              try simp only [Act.put, List.setIfInBounds_toArray, List.set_cons_zero, List.set_cons_succ]
              refine wpL_val ?v317 rfl (by rfl) (fun wq hq => ?y317) ?z317
              case y317 => go_simp; with_reducible rfl
              try simp only [Act.put, List.setIfInBounds_toArray, List.set_cons_zero, List.set_cons_succ]
              refine wpL_val ?v318 rfl (by rfl) (fun wq hq => ?y318) ?z318
              case y318 => go_simp; with_reducible rfl
              try simp only [Act.put, List.setIfInBounds_toArray, List.set_cons_zero, List.set_cons_succ]
              refine wpL_val ?v319 rfl (by rfl) (fun wq hq => ?y319) ?z319
              case y319 => go_simp; with_reducible rfl
              try simp only [Act.put, List.setIfInBounds_toArray, List.set_cons_zero, List.set_cons_succ]
              refine wpL_nil ?_
              intro we hwe
              have HFIN := hWF.trans (hwe.mono hWF.size)
              go_wp2_with fail
              go_ret
              exact ⟨rfl, HW10.out.trans (HFIN.mono HW10.out.size)⟩
          · exfalso; omega
    · have d1 : decide (a < 0) = false := decide_eq_false ha1
      have e2 : (LS.length : Int) ≤ a := by omega
      have d2 : decide ((LS.length : Int) ≤ a) = true := decide_eq_true e2
      go_upto_region 13 with (fail)
      refine wp_region_listed 7 [] (Below w10.heap.size w10) (by decide) (Stable.below w10) (Below.refl _ _) ?_
      simp only [List.range, List.range.loop, opsOf, List.getElem?_cons_succ, List.getElem?_cons_zero, List.drop_succ_cons, List.drop_zero]
      refine wpL_val (.agg lx.toArray) rfl (by rfl) (fun wq hq => quiet_ld 24 _ rfl _ _ rfl lx _ (range_below HAX.out.range hq HAX.out.lt) hu.out rfl lx_L.out) ?_
      try simp only [Act.put, List.setIfInBounds_toArray, List.set_cons_zero, List.set_cons_succ]
      refine wpL_val (.agg (List.replicate 32 (V8 0)).toArray) rfl (by rfl) (fun wq hq => quiet_build0 24 rfl _ built24) ?_
      try simp only [Act.put, List.setIfInBounds_toArray, List.set_cons_zero, List.set_cons_succ]
      refine wpL_val (.bool (!true)) rfl (by rfl) (fun wq hq => quiet_neq 24 _ _ _ rfl _ _ rfl rfl guardD true ((eqlD zd zd zd_len zd_len _ _ HLX.out dv_zd wq).trans (by rw [decide_eq_true rfl]))) ?_
      try simp only [Act.put, List.setIfInBounds_toArray, List.set_cons_zero, List.set_cons_succ]
      refine wpL_val ?v325 rfl (by rfl) (fun wq hq => ?y325) ?z325
      case y325 => go_simp; with_reducible rfl
      try simp only [Act.put, List.setIfInBounds_toArray, List.set_cons_zero, List.set_cons_succ]
      refine wpL_val ?v326 rfl (by rfl) (fun wq hq => ?y326) ?z326
      case y326 => go_simp; with_reducible rfl
      try simp only [Act.put, List.setIfInBounds_toArray, List.set_cons_zero, List.set_cons_succ]
      refine wpL_val ?v327 rfl (by rfl) (fun wq hq => ?y327) ?z327
      case y327 => go_simp; with_reducible rfl
      try simp only [Act.put, List.setIfInBounds_toArray, List.set_cons_zero, List.set_cons_succ]
      refine wpL_val ?v328 rfl (by rfl) (fun wq hq => ?y328) ?z328
      case y328 => go_simp; with_reducible rfl
      try simp only [Act.put, List.setIfInBounds_toArray, List.set_cons_zero, List.set_cons_succ]
      refine wpL_nil ?_
      intro w11 hw11
      have HDP := HDP0; have HDQ := HDQ0
      go_upto_region 17 with (fail)
      by_cases hb1 : b < 0
      · have dn : decide (b < 0) = true := decide_eq_true hb1
        obtain ⟨hr1, hr2⟩ := HRB.out (by omega)
        obtain ⟨hp1, hp2⟩ := HPB.out (by omega)
        obtain ⟨hq1, hq2⟩ := HQB.out (by omega)
        subst hr1 hr2 hp1 hp2 hq1 hq2
        go_upto_region 18 with (fail)
        refine wp_region_listed 24 [] (Below w11.heap.size w11) (by decide) (Stable.below w11) (Below.refl _ _) ?_
        simp only [List.range, List.range.loop, opsOf, List.getElem?_cons_succ, List.getElem?_cons_zero, List.drop_succ_cons, List.drop_zero]
        refine wpL_val (.agg lr.toArray) rfl (by rfl) (fun wq hq => quiet_ld 24 _ rfl _ _ rfl lr _ (range_below HAR.out.range (hw11.trans (hq.mono hw11.size)) HAR.out.lt) hu.out rfl lr_L.out) ?_
        try simp only [Act.put, List.setIfInBounds_toArray, List.set_cons_zero, List.set_cons_succ]
        refine wpL_val (.agg (List.replicate 32 (V8 0)).toArray) rfl (by rfl) (fun wq hq => quiet_build0 24 rfl _ built24) ?_
        try simp only [Act.put, List.setIfInBounds_toArray, List.set_cons_zero, List.set_cons_succ]
        refine wpL_val (.bool true) rfl (by rfl) (fun wq hq => quiet_eql 24 _ _ _ rfl _ _ rfl rfl guardD true ((eqlD zd zd zd_len zd_len _ _ HLR.out dv_zd wq).trans (by rw [decide_eq_true rfl]))) ?_
        try simp only [Act.put, List.setIfInBounds_toArray, List.set_cons_zero, List.set_cons_succ]
        refine wpL_val ?v334 rfl (by rfl) (fun wq hq => ?y334) ?z334
        case y334 => go_simp; with_reducible rfl
        try simp only [Act.put, List.setIfInBounds_toArray, List.set_cons_zero, List.set_cons_succ]
        refine wpL_val ?v335 rfl (by rfl) (fun wq hq => ?y335) ?z335
        case y335 => go_simp; with_reducible rfl
        try simp only [Act.put, List.setIfInBounds_toArray, List.set_cons_zero, List.set_cons_succ]
        refine wpL_val ?v336 rfl (by rfl) (fun wq hq => ?y336) ?z336
        case y336 => go_simp; with_reducible rfl
        try simp only [Act.put, List.setIfInBounds_toArray, List.set_cons_zero, List.set_cons_succ]
        refine wpL_val ?v337 rfl (by rfl) (fun wq hq => ?y337) ?z337
        case y337 => go_simp; with_reducible rfl
        try simp only [Act.put, List.setIfInBounds_toArray, List.set_cons_zero, List.set_cons_succ]
        refine wpL_val ?v338 rfl (by rfl) (fun wq hq => ?y338) ?z338
        case y338 => go_simp; with_reducible rfl
        try simp only [Act.put, List.setIfInBounds_toArray, List.set_cons_zero, List.set_cons_succ]
        refine wpL_val ?v339 rfl (by rfl) (fun wq hq => ?y339) ?z339
        case y339 => go_simp; with_reducible rfl
        try simp only [Act.put, List.setIfInBounds_toArray, List.set_cons_zero, List.set_cons_succ]
        refine wpL_val ?v340 rfl (by rfl) (fun wq hq => ?y340) ?z340
        case y340 => go_simp; with_reducible rfl
        try simp only [Act.put, List.setIfInBounds_toArray, List.set_cons_zero, List.set_cons_succ]
        refine wpL_val ?v341 rfl (by rfl) (fun wq hq => ?y341) ?z341
        case y341 => go_simp; with_reducible rfl
        try simp only [Act.put, List.setIfInBounds_toArray, List.set_cons_zero, List.set_cons_succ]
        refine wpL_val ?v342 rfl (by rfl) (fun wq hq => ?y342) ?z342
        case y342 => go_simp; with_reducible rfl
        try simp only [Act.put, List.setIfInBounds_toArray, List.set_cons_zero, List.set_cons_succ]
        refine wpL_val ?v343 rfl (by rfl) (fun wq hq => ?y343) ?z343
        case y343 => go_simp; with_reducible rfl
        try simp only [Act.put, List.setIfInBounds_toArray, List.set_cons_zero, List.set_cons_succ]
        refine wpL_val ?v344 rfl (by rfl) (fun wq hq => ?y344) ?z344
        case y344 => go_simp; with_reducible rfl
        try simp only [Act.put, List.setIfInBounds_toArray, List.set_cons_zero, List.set_cons_succ]
        refine wpL_val ?v345 rfl (by rfl) (fun wq hq => ?y345) ?z345
        case y345 => go_simp; with_reducible rfl
        try simp only [Act.put, List.setIfInBounds_toArray, List.set_cons_zero, List.set_cons_succ]
        refine wpL_val ?v346 rfl (by rfl) (fun wq hq => ?y346) ?z346
        case y346 => go_simp; with_reducible rfl
        try simp only [Act.put, List.setIfInBounds_toArray, List.set_cons_zero, List.set_cons_succ]
        refine wpL_val ?v347 rfl (by rfl) (fun wq hq => ?y347) ?z347
        case y347 => go_simp; with_reducible rfl
        try simp only [Act.put, List.setIfInBounds_toArray, List.set_cons_zero, List.set_cons_succ]
        refine wpL_val ?v348 rfl (by rfl) (fun wq hq => ?y348) ?z348
        case y348 => go_simp; with_reducible rfl
        try simp only [Act.put, List.setIfInBounds_toArray, List.set_cons_zero, List.set_cons_succ]
        refine wpL_val ?v349 rfl (by rfl) (fun wq hq => ?y349) ?z349
        case y349 => go_simp; with_reducible rfl
        try simp only [Act.put, List.setIfInBounds_toArray, List.set_cons_zero, List.set_cons_succ]
        refine wpL_val ?v350 rfl (by rfl) (fun wq hq => ?y350) ?z350
        case y350 => go_simp; with_reducible rfl
        try simp only [Act.put, List.setIfInBounds_toArray, List.set_cons_zero, List.set_cons_succ]
        refine wpL_val ?v351 rfl (by rfl) (fun wq hq => ?y351) ?z351
        case y351 => go_simp; with_reducible rfl
        try simp only [Act.put, List.setIfInBounds_toArray, List.set_cons_zero, List.set_cons_succ]
        refine wpL_val ?v352 rfl (by rfl) (fun wq hq => ?y352) ?z352
        case y352 => go_simp; with_reducible rfl
        try simp only [Act.put, List.setIfInBounds_toArray, List.set_cons_zero, List.set_cons_succ]
        refine wpL_val ?v353 rfl (by rfl) (fun wq hq => ?y353) ?z353
        case y353 => go_simp; with_reducible rfl
        try simp only [Act.put, List.setIfInBounds_toArray, List.set_cons_zero, List.set_cons_succ]
        refine wpL_val ?v354 rfl (by rfl) (fun wq hq => ?y354) ?z354
        case y354 => go_simp; with_reducible rfl
        try simp only [Act.put, List.setIfInBounds_toArray, List.set_cons_zero, List.set_cons_succ]
        refine wpL_nil ?_
        intro we hwe
        have HFIN := hw11.trans (hwe.mono hw11.size)
        go_wp2_with fail
        go_ret
        exact ⟨rfl, HW10.out.trans (HFIN.mono HW10.out.size)⟩
      · by_cases hb2 : (LS.length : Int) < b
        · have dn : decide (b < 0) = false := decide_eq_false hb1
          have dl : decide ((LS.length : Int) < b) = true := decide_eq_true hb2
          obtain ⟨hr1, hr2⟩ := HRB.out (by omega)
          obtain ⟨hp1, hp2⟩ := HPB.out (by omega)
          obtain ⟨hq1, hq2⟩ := HQB.out (by omega)
          subst hr1 hr2 hp1 hp2 hq1 hq2
          go_upto_region 18 with (fail)
          refine wp_region_listed 24 [] (Below w11.heap.size w11) (by decide) (Stable.below w11) (Below.refl _ _) ?_
          simp only [List.range, List.range.loop, opsOf, List.getElem?_cons_succ, List.getElem?_cons_zero, List.drop_succ_cons, List.drop_zero]
          refine wpL_val (.agg lr.toArray) rfl (by rfl) (fun wq hq => quiet_ld 24 _ rfl _ _ rfl lr _ (range_below HAR.out.range (hw11.trans (hq.mono hw11.size)) HAR.out.lt) hu.out rfl lr_L.out) ?_
          try simp only [Act.put, List.setIfInBounds_toArray, List.set_cons_zero, List.set_cons_succ]
          refine wpL_val (.agg (List.replicate 32 (V8 0)).toArray) rfl (by rfl) (fun wq hq => quiet_build0 24 rfl _ built24) ?_
          try simp only [Act.put, List.setIfInBounds_toArray, List.set_cons_zero, List.set_cons_succ]
          refine wpL_val (.bool true) rfl (by rfl) (fun wq hq => quiet_eql 24 _ _ _ rfl _ _ rfl rfl guardD true ((eqlD zd zd zd_len zd_len _ _ HLR.out dv_zd wq).trans (by rw [decide_eq_true rfl]))) ?_
          try simp only [Act.put, List.setIfInBounds_toArray, List.set_cons_zero, List.set_cons_succ]
          refine wpL_val ?v360 rfl (by rfl) (fun wq hq => ?y360) ?z360
          case y360 => go_simp; with_reducible rfl
          try simp only [Act.put, List.setIfInBounds_toArray, List.set_cons_zero, List.set_cons_succ]
          refine wpL_val ?v361 rfl (by rfl) (fun wq hq => ?y361) ?z361
          case y361 => go_simp; with_reducible rfl
          try simp only [Act.put, List.setIfInBounds_toArray, List.set_cons_zero, List.set_cons_succ]
          refine wpL_val ?v362 rfl (by rfl) (fun wq hq => ?y362) ?z362
          case y362 => go_simp; with_reducible rfl
          try simp only [Act.put, List.setIfInBounds_toArray, List.set_cons_zero, List.set_cons_succ]
          refine wpL_val ?v363 rfl (by rfl) (fun wq hq => ?y363) ?z363
          case y363 => go_simp; with_reducible rfl
          try simp only [Act.put, List.setIfInBounds_toArray, List.set_cons_zero, List.set_cons_succ]
          refine wpL_val ?v364 rfl (by rfl) (fun wq hq => ?y364) ?z364
          case y364 => go_simp; with_reducible rfl
          try simp only [Act.put, List.setIfInBounds_toArray, List.set_cons_zero, List.set_cons_succ]
          refine wpL_val ?v365 rfl (by rfl) (fun wq hq => ?y365) ?z365
          case y365 => go_simp; with_reducible rfl
          try simp only [Act.put, List.setIfInBounds_toArray, List.set_cons_zero, List.set_cons_succ]
          refine wpL_val ?v366 rfl (by rfl) (fun wq hq => ?y366) ?z366
          case y366 => go_simp; with_reducible rfl
          try simp only [Act.put, List.setIfInBounds_toArray, List.set_cons_zero, List.set_cons_succ]
          refine wpL_val ?v367 rfl (by rfl) (fun wq hq => ?y367) ?z367
          case y367 => go_simp; with_reducible rfl
          try simp only [Act.put, List.setIfInBounds_toArray, List.set_cons_zero, List.set_cons_succ]
          refine wpL_val ?v368 rfl (by rfl) (fun wq hq => ?y368) ?z368
          case y368 => go_simp; with_reducible rfl
          try simp only [Act.put, List.setIfInBounds_toArray, List.set_cons_zero, List.set_cons_succ]
          refine wpL_val ?v369 rfl (by rfl) (fun wq hq => ?y369) ?z369
          case y369 => go_simp; with_reducible rfl
          try simp only [Act.put, List.setIfInBounds_toArray, List.set_cons_zero, List.set_cons_succ]
          refine wpL_val ?v370 rfl (by rfl) (fun wq hq => ?y370) ?z370
          case y370 => go_simp; with_reducible rfl
          try simp only [Act.put, List.setIfInBounds_toArray, List.set_cons_zero, List.set_cons_succ]
          refine wpL_val ?v371 rfl (by rfl) (fun wq hq => ?y371) ?z371
          case y371 => go_simp; with_reducible rfl
          try simp only [Act.put, List.setIfInBounds_toArray, List.set_cons_zero, List.set_cons_succ]
          refine wpL_val ?v372 rfl (by rfl) (fun wq hq => ?y372) ?z372
          case y372 => go_simp; with_reducible rfl
          try simp only [Act.put, List.setIfInBounds_toArray, List.set_cons_zero, List.set_cons_succ]
          refine wpL_val ?v373 rfl (by rfl) (fun wq hq => ?y373) ?z373
          case y373 => go_simp; with_reducible rfl
          try simp only [Act.put, List.setIfInBounds_toArray, List.set_cons_zero, List.set_cons_succ]
          refine wpL_val ?v374 rfl (by rfl) (fun wq hq => ?y374) ?z374
          case y374 => go_simp; with_reducible rfl
          try simp only [Act.put, List.setIfInBounds_toArray, List.set_cons_zero, List.set_cons_succ]
          refine wpL_val ?v375 rfl (by rfl) (fun wq hq => ?y375) ?z375
          case y375 => go_simp; with_reducible rfl
          try simp only [Act.put, List.setIfInBounds_toArray, List.set_cons_zero, List.set_cons_succ]
          refine wpL_val ?v376 rfl (by rfl) (fun wq hq => ?y376) ?z376
          case y376 => go_simp; with_reducible rfl
          try simp only [Act.put, List.setIfInBounds_toArray, List.set_cons_zero, List.set_cons_succ]
          refine wpL_val ?v377 rfl (by rfl) (fun wq hq => ?y377) ?z377
          case y377 => go_simp; with_reducible rfl
          try simp only [Act.put, List.setIfInBounds_toArray, List.set_cons_zero, List.set_cons_succ]
          refine wpL_val ?v378 rfl (by rfl) (fun wq hq => ?y378) ?z378
          case y378 => go_simp; with_reducible rfl
          try simp only [Act.put, List.setIfInBounds_toArray, List.set_cons_zero, List.set_cons_succ]
          refine wpL_val ?v379 rfl (by rfl) (fun wq hq => ?y379) ?z379
          case y379 => go_simp; with_reducible rfl
          try simp only [Act.put, List.setIfInBounds_toArray, List.set_cons_zero, List.set_cons_succ]
          refine wpL_val ?v380 rfl (by rfl) (fun wq hq => ?y380) ?z380
          case y380 => go_simp; with_reducible rfl
          try simp only [Act.put, List.setIfInBounds_toArray, List.set_cons_zero, List.set_cons_succ]
          refine wpL_nil ?_
          intro we hwe
          have HFIN := hw11.trans (hwe.mono hw11.size)
          go_wp2_with fail
          go_ret
          exact ⟨rfl, HW10.out.trans (HFIN.mono HW10.out.size)⟩
        · have dn : decide (b < 0) = false := decide_eq_false hb1
          have dl : decide ((LS.length : Int) < b) = false := decide_eq_false hb2
          obtain ⟨n, rfl⟩ := Int.eq_ofNat_of_zero_le (show 0 ≤ b by omega)
          have hn : n ≤ LS.length := by omega
          obtain ⟨hr1, hr2⟩ := HRG.out ⟨by omega, by omega⟩
          rw [Int.toNat_natCast] at hr1
          subst hr1 hr2
          have hcn := (TreesA.Digs.cut HD10.out hn).1
          have hcd := Lib.hid (TreesA.Digs.cut (HD10.out.below hw11 (Nat.le_refl _)) hn).2
          have hcapi : ¬ (cl : Int) < (n : Int) := by omega
          have hrootn := fun v w hV => rootE_any (LS.take n) v w (by rw [List.length_take]; omega) hV
          rw [HLR.out] at hrootn
          have htl : (LS.take n).length = n := by rw [List.length_take]; omega
          have hmtl := mtree_length (LS.take n) (fun d hd => HALL.out d (List.mem_of_mem_take hd))
          go_upto_region 19 with (fail)
          refine wp_region_all [] [0, 1, 2, 3, 4, 5, 6, 7, 8, 9] (Below w11.heap.size w11) (Stable.below w11) (Below.refl _ _).drew (by kernel_rfl) (by kernel_rfl) ?_
          simp only [opsOf, List.getElem?_cons_succ, List.getElem?_cons_zero, List.drop_succ_cons, List.drop_zero]
          refine wpL_val (.agg lr.toArray) rfl (by rfl) (fun wq hq => quiet_ld 24 _ rfl _ _ rfl lr _ (range_below HAR.out.range (hw11.trans (hq.mono hw11.size)) HAR.out.lt) hu.out rfl lr_L.out) ?_
          try simp only [Act.put, List.setIfInBounds_toArray, List.set_cons_zero, List.set_cons_succ]
          refine wpL_val ?v384 rfl (by rfl) (fun wq hq => ?y384) ?z384
          case y384 => go_simp; with_reducible rfl
          try simp only [Act.put, List.setIfInBounds_toArray, List.set_cons_zero, List.set_cons_succ]
          refine wpL_val ?v385 rfl (by rfl) (fun wq hq => ?y385) ?z385
          case y385 => go_simp; with_reducible rfl
          try simp only [Act.put, List.setIfInBounds_toArray, List.set_cons_zero, List.set_cons_succ]
          refine wpL_val ?v386 rfl (by rfl) (fun wq hq => ?y386) ?z386
          case y386 => go_simp; with_reducible rfl
          try simp only [Act.put, List.setIfInBounds_toArray, List.set_cons_zero, List.set_cons_succ]
          refine wpL_val ?v387 rfl (by rfl) (fun wq hq => ?y387) ?z387
          case y387 => go_simp; exact hrootn _ _ (hcd.out.below hq (Nat.le_refl _))
          try simp only [Act.put, List.setIfInBounds_toArray, List.set_cons_zero, List.set_cons_succ]
          refine wpL_val (.bool (!true)) rfl (by rfl) (fun wq hq => quiet_neq 23 _ _ _ rfl _ _ rfl rfl guardR true ((eqlR (mtree (LS.take n)) (mtree (LS.take n)) hmtl hmtl _ _ HLR.out HLR.out wq).trans (by rw [decide_eq_true rfl]))) ?_
          try simp only [Act.put, List.setIfInBounds_toArray, List.set_cons_zero, List.set_cons_succ]
          refine wpL_val ?v389 rfl (by rfl) (fun wq hq => ?y389) ?z389
          case y389 => go_simp; with_reducible rfl
          try simp only [Act.put, List.setIfInBounds_toArray, List.set_cons_zero, List.set_cons_succ]
          refine wpL_val ?v390 rfl (by rfl) (fun wq hq => ?y390) ?z390
          case y390 => go_simp; with_reducible rfl
          try simp only [Act.put, List.setIfInBounds_toArray, List.set_cons_zero, List.set_cons_succ]
          refine wpL_val ?v391 rfl (by rfl) (fun wq hq => ?y391) ?z391
          case y391 => go_simp; with_reducible rfl
          try simp only [Act.put, List.setIfInBounds_toArray, List.set_cons_zero, List.set_cons_succ]
          refine wpL_val ?v392 rfl (by rfl) (fun wq hq => ?y392) ?z392
          case y392 => go_simp; with_reducible rfl
          try simp only [Act.put, List.setIfInBounds_toArray, List.set_cons_zero, List.set_cons_succ]
          refine wpL_nil ?_
          intro wf hwf
          have hWF := hw11.trans (hwf.mono hw11.size)
          have HDN := Lib.hid (hcd.out.below hwf (Nat.le_refl _))
          clear hcd hrootn hmtl htl
          by_cases hab : a < 0 ∨ (n : Int) < a
          · obtain ⟨hp1, hp2⟩ := HPB.out (by omega)
            obtain ⟨hq1, hq2⟩ := HQB.out (by omega)
            subst hp1 hp2 hq1 hq2
            by_cases ha1 : a < 0
            · exfalso; omega
            · have da : decide (a < 0) = false := decide_eq_false ha1
              have ha2 : (n : Int) < a := by omega
              have db : decide ((n : Int) < a) = true := decide_eq_true ha2
              go_upto_region 22 with (fail)
              refine wp_region_listed 15 [] (Below wf.heap.size wf) (by decide) (Stable.below wf) (Below.refl _ _) ?_
              simp only [List.range, List.range.loop, opsOf, List.getElem?_cons_succ, List.getElem?_cons_zero, List.drop_succ_cons, List.drop_zero]
              refine wpL_val ?v395 rfl (by rfl) (fun wq hq => ?y395) ?z395
              case y395 => go_simp; with_reducible rfl
              try simp only [Act.put, List.setIfInBounds_toArray, List.set_cons_zero, List.set_cons_succ]
              refine wpL_val ?v396 rfl (by rfl) (fun wq hq => ?y396) ?z396
              case y396 => go_simp; with_reducible rfl
              try simp only [Act.put, List.setIfInBounds_toArray, List.set_cons_zero, List.set_cons_succ]
              refine wpL_val ?v397 rfl (by rfl) (fun wq hq => ?y397) ?z397
              case y397 => go_simp; with_reducible rfl
              try simp only [Act.put, List.setIfInBounds_toArray, List.set_cons_zero, List.set_cons_succ]
              refine wpL_val ?v398 rfl (by rfl) (fun wq hq => ?y398) ?z398
              case y398 => go_simp; with_reducible rfl
              try simp only [Act.put, List.setIfInBounds_toArray, List.set_cons_zero, List.set_cons_succ]
              refine wpL_val ?v399 rfl (by rfl) (fun wq hq => ?y399) ?z399
              case y399 => go_simp; with_reducible rfl
              try simp only [Act.put, List.setIfInBounds_toArray, List.set_cons_zero, List.set_cons_succ]
              refine wpL_val ?v400 rfl (by rfl) (fun wq hq => ?y400) ?z400
              case y400 => go_simp; with_reducible rfl
              try simp only [Act.put, List.setIfInBounds_toArray, List.set_cons_zero, List.set_cons_succ]
              refine wpL_val ?v401 rfl (by rfl) (fun wq hq => ?y401) ?z401
              case y401 => go_simp; with_reducible rfl
              try simp only [Act.put, List.setIfInBounds_toArray, List.set_cons_zero, List.set_cons_succ]
              refine wpL_val ?v402 rfl (by rfl) (fun wq hq => ?y402) ?z402
              case y402 => go_simp; with_reducible rfl
              try simp only [Act.put, List.setIfInBounds_toArray, List.set_cons_zero, List.set_cons_succ]
              refine wpL_val ?v403 rfl (by rfl) (fun wq hq => ?y403) ?z403
              case y403 => go_simp; with_reducible rfl
              try simp only [Act.put, List.setIfInBounds_toArray, List.set_cons_zero, List.set_cons_succ]
              refine wpL_val ?v404 rfl (by rfl) (fun wq hq => ?y404) ?z404
              case y404 => go_simp; with_reducible rfl
              try simp only [Act.put, List.setIfInBounds_toArray, List.set_cons_zero, List.set_cons_succ]
              refine wpL_val ?v405 rfl (by rfl) (fun wq hq => ?y405) ?z405
              case y405 => go_simp; with_reducible rfl
              try simp only [Act.put, List.setIfInBounds_toArray, List.set_cons_zero, List.set_cons_succ]
              refine wpL_val ?v406 rfl (by rfl) (fun wq hq => ?y406) ?z406
              case y406 => go_simp; with_reducible rfl
              try simp only [Act.put, List.setIfInBounds_toArray, List.set_cons_zero, List.set_cons_succ]
              refine wpL_val ?v407 rfl (by rfl) (fun wq hq => ?y407) ?z407
              case y407 => go_simp; with_reducible rfl
              try simp only [Act.put, List.setIfInBounds_toArray, List.set_cons_zero, List.set_cons_succ]
              refine wpL_val ?v408 rfl (by rfl) (fun wq hq => ?y408) ?z408
              case y408 => go_simp; with_reducible rfl
              try simp only [Act.put, List.setIfInBounds_toArray, List.set_cons_zero, List.set_cons_succ]
              refine wpL_val ?v409 rfl (by rfl) (fun wq hq => ?y409) ?z409
              case y409 => go_simp; with_reducible rfl
              try simp only [Act.put, List.setIfInBounds_toArray, List.set_cons_zero, List.set_cons_succ]
              refine wpL_nil ?_
              intro we hwe
              have HFIN := hWF.trans (hwe.mono hWF.size)
              go_wp2_with fail
              go_ret
              exact ⟨rfl, HW10.out.trans (HFIN.mono HW10.out.size)⟩
          · have ha1 : ¬ a < 0 := by omega
            have da : decide (a < 0) = false := decide_eq_false ha1
            obtain ⟨m, rfl⟩ := Int.eq_ofNat_of_zero_le (show 0 ≤ a by omega)
            have hmn : m ≤ n := by omega
            have ha2 : ¬ (n : Int) < (m : Int) := by omega
            have db : decide ((n : Int) < (m : Int)) = false := decide_eq_false ha2
            obtain ⟨hq1, hq2⟩ := HQG.out ⟨by omega, by omega, by omega⟩
            rw [Int.toNat_natCast, Int.toNat_natCast] at hq1
            subst hq2
            have hextn := fun v w hV => ExtnR_any LS HALL.out (by omega) m n v w hmn hn hV
            rw [← hq1] at hextn
            have hbackq := fun v w hV => back_any qs v w (by omega) hV
            have hsameq := fun v1 v2 w h1 h2 => same_any qs v1 v2 w (by omega) h1 h2
            have HQ1 := Lib.hid hq1
            clear hq1
            go_upto_region 23 with (fail)
            refine wp_region_all [4, 9, 10] [0, 1, 2, 3, 5, 6, 7, 8, 4, 9, 10, 11, 12] (Below wf.heap.size wf) (Stable.below wf) (Below.refl _ _).drew (by kernel_rfl) (by kernel_rfl) ?_
            simp only [opsOf, List.getElem?_cons_succ, List.getElem?_cons_zero, List.drop_succ_cons, List.drop_zero]
            refine wpL_val ?v412 rfl (by rfl) (fun wq hq => ?y412) ?z412
            case y412 => go_simp; with_reducible rfl
            try simp only [Act.put, List.setIfInBounds_toArray, List.set_cons_zero, List.set_cons_succ]
            refine wpL_val ?v413 rfl (by rfl) (fun wq hq => ?y413) ?z413
            case y413 => go_simp; with_reducible rfl
            try simp only [Act.put, List.setIfInBounds_toArray, List.set_cons_zero, List.set_cons_succ]
            refine wpL_val ?v414 rfl (by rfl) (fun wq hq => ?y414) ?z414
            case y414 => go_simp; with_reducible rfl
            try simp only [Act.put, List.setIfInBounds_toArray, List.set_cons_zero, List.set_cons_succ]
            refine wpL_val ?v415 rfl (by rfl) (fun wq hq => ?y415) ?z415
            case y415 => go_simp; with_reducible rfl
            try simp only [Act.put, List.setIfInBounds_toArray, List.set_cons_zero, List.set_cons_succ]
            refine wpL_val ?v416 rfl (by rfl) (fun wq hq => ?y416) ?z416
            case y416 => go_simp; with_reducible rfl
            try simp only [Act.put, List.setIfInBounds_toArray, List.set_cons_zero, List.set_cons_succ]
            refine wpL_val ?v417 rfl (by rfl) (fun wq hq => ?y417) ?z417
            case y417 => go_simp; with_reducible rfl
            try simp only [Act.put, List.setIfInBounds_toArray, List.set_cons_zero, List.set_cons_succ]
            refine wpL_val ?v418 rfl (by rfl) (fun wq hq => ?y418) ?z418
            case y418 => go_simp; with_reducible rfl
            try simp only [Act.put, List.setIfInBounds_toArray, List.set_cons_zero, List.set_cons_succ]
            refine wpL_val ?v419 rfl (by rfl) (fun wq hq => ?y419) ?z419
            case y419 => go_simp; with_reducible rfl
            try simp only [Act.put, List.setIfInBounds_toArray, List.set_cons_zero, List.set_cons_succ]
            refine wpL_made (fun v => ∃ a c, v = .slice a qs.length c) (fun v w => Digs w v qs) rfl (by rfl) (Stable.below wf) (fun _ h => h) (stabDigs qs) (fun wq hq => ?y420) ?_
            case y420 => unfold genAt; go_simp; refine (hbackq _ _ (HDQ.out.below (hWF.trans (hq.mono hWF.size)) (Nat.le_refl _))).mono ?_; rintro e wz ⟨⟨vz, rfl, hV⟩, hb⟩; exact ⟨vz, rfl, hV.shape, hV, hb⟩
            intro v4 hv4; obtain ⟨a4, c4, rfl⟩ := hv4
            try simp only [Act.put, List.setIfInBounds_toArray, List.set_cons_zero, List.set_cons_succ]
            refine wpL_made (fun v => ∃ a c, v = .slice a qs.length c) (fun v w => Digs w v qs) rfl (by rfl) (Stable.made (Stable.below wf) (stabDigs qs _)) (fun _ h => h.1) (stabDigs qs) (fun wq hq => ?y421) ?_
            case y421 => unfold genAt; go_simp; refine (hextn _ _ (HDN.out.below hq.1 (Nat.le_refl _))).mono ?_; rintro e wz ⟨vz, rfl, hV, hb⟩; exact ⟨vz, rfl, hV.shape, hV, hb⟩
            intro v9 hv9; obtain ⟨a9, c9, rfl⟩ := hv9
            try simp only [Act.put, List.setIfInBounds_toArray, List.set_cons_zero, List.set_cons_succ]
            refine wpL_one ?v422 rfl (by rfl) (Stable.made (Stable.made (Stable.below wf) (stabDigs qs _)) (stabDigs qs _)) (fun _ h => h.1.1) (fun wq hq => ?y422) ?z422
            case y422 => go_simp; exact hsameq _ _ _ hq.1.2 hq.2
            try simp only [Act.put, List.setIfInBounds_toArray, List.set_cons_zero, List.set_cons_succ]
            refine wpL_val ?v423 rfl (by rfl) (fun wq hq => ?y423) ?z423
            case y423 => go_simp; with_reducible rfl
            try simp only [Act.put, List.setIfInBounds_toArray, List.set_cons_zero, List.set_cons_succ]
            refine wpL_val ?v424 rfl (by rfl) (fun wq hq => ?y424) ?z424
            case y424 => go_simp; with_reducible rfl
            try simp only [Act.put, List.setIfInBounds_toArray, List.set_cons_zero, List.set_cons_succ]
            refine wpL_nil ?_
            intro wg0 hwg0
            have hwg := hwg0.1.1
            have hWG := hWF.trans (hwg.mono hWF.size)
            have HDG := Lib.hid (HDN.out.below hwg (Nat.le_refl _))
            clear hwg0 hwg hextn hbackq hsameq HDN
            by_cases hmne : m = n
            · have hmi : (m : Int) = (n : Int) := by omega
              obtain ⟨hp1, hp2⟩ := HPB.out (by omega)
              clear hmi
              subst hp1 hp2 hmne
              go_upto_region 26 with (fail)
              refine wp_region_listed 8 [] (Below wg0.heap.size wg0) (by decide) (Stable.below wg0) (Below.refl _ _) ?_
              simp only [List.range, List.range.loop, opsOf, List.getElem?_cons_succ, List.getElem?_cons_zero, List.drop_succ_cons, List.drop_zero]
              refine wpL_val ?v427 rfl (by rfl) (fun wq hq => ?y427) ?z427
              case y427 => go_simp; with_reducible rfl
              try simp only [Act.put, List.setIfInBounds_toArray, List.set_cons_zero, List.set_cons_succ]
              refine wpL_val ?v428 rfl (by rfl) (fun wq hq => ?y428) ?z428
              case y428 => go_simp; with_reducible rfl
              try simp only [Act.put, List.setIfInBounds_toArray, List.set_cons_zero, List.set_cons_succ]
              refine wpL_val ?v429 rfl (by rfl) (fun wq hq => ?y429) ?z429
              case y429 => go_simp; with_reducible rfl
              try simp only [Act.put, List.setIfInBounds_toArray, List.set_cons_zero, List.set_cons_succ]
              refine wpL_val ?v430 rfl (by rfl) (fun wq hq => ?y430) ?z430
              case y430 => go_simp; with_reducible rfl
              try simp only [Act.put, List.setIfInBounds_toArray, List.set_cons_zero, List.set_cons_succ]
              refine wpL_val ?v431 rfl (by rfl) (fun wq hq => ?y431) ?z431
              case y431 => go_simp; with_reducible rfl
              try simp only [Act.put, List.setIfInBounds_toArray, List.set_cons_zero, List.set_cons_succ]
              refine wpL_val ?v432 rfl (by rfl) (fun wq hq => ?y432) ?z432
              case y432 => go_simp; with_reducible rfl
              try simp only [Act.put, List.setIfInBounds_toArray, List.set_cons_zero, List.set_cons_succ]
              refine wpL_val ?v433 rfl (by rfl) (fun wq hq => ?y433) ?z433
              case y433 => go_simp; with_reducible rfl
              try simp only [Act.put, List.setIfInBounds_toArray, List.set_cons_zero, List.set_cons_succ]
              refine wpL_val ?v434 rfl (by rfl) (fun wq hq => ?y434) ?z434
              case y434 => go_simp; with_reducible rfl
              try simp only [Act.put, List.setIfInBounds_toArray, List.set_cons_zero, List.set_cons_succ]
              refine wpL_nil ?_
              intro we hwe
              have HFIN := hWG.trans (hwe.mono hWG.size)
              go_wp2_with fail
              go_ret
              exact ⟨rfl, HW10.out.trans (HFIN.mono HW10.out.size)⟩
            · exfalso; omega
end Go.Proofs.YteehpfccegnjjaaDoor
