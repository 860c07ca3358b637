/-
  The walk of the law LogtreeIncludes.
-/
import Derived.Test.YteehpfccegnjjaaDoorGrow
namespace Go.Proofs.YteehpfccegnjjaaDoor
open Go Go.RowKit
theorem seg_whole (ds : List (List UInt8)) : seg ds 0 ds.length = ds := by unfold seg; simp
theorem mtree_pos (ds : List (List UInt8)) (h : 0 < ds.length) : mtree ds = mroot ds := by
  unfold mtree
  rw [if_neg (fun e => by rw [e] at h; simp at h)]
set_option maxRecDepth 100000 in
set_option linter.unusedSimpArgs false in
set_option maxHeartbeats 2000000 in
theorem includes_law (n s : Int) (w : World) (hn : (Lit.int .u8 n).wf = true) (hs : (Lit.int .u8 s).wf = true) (hK : KT w) :
    Calls Tryd.prog 7 #[.int .u8 n, .int .u8 s] w fun e w' => e = .returned (.bool true) ∧ Below w.heap.size w w' := by
  obtain ⟨nb, rfl⟩ : ∃ x : UInt8, n = x.toNat := u8_of_wf hn
  obtain ⟨sb, rfl⟩ : ∃ x : UInt8, s = x.toNat := u8_of_wf hs
  have hall := leaves_all nb sb
  have hlen := leaves_length nb sb
  have hlv := fun w => leaves_any nb sb w
  have h41 : nb.toNat % 41 < 41 := Nat.mod_lt _ (by omega)
  rw [← hlen] at h41
  generalize leaves nb sb = LS at *
  have hroot := fun v w hV => rootE_any LS v w (by omega) hV
  have hrl := mtree_length LS hall
  obtain ⟨lr, hR, -, hrl2, hro⟩ := v8_list (mtree LS) hrl
  have HR := Lib.hid hR
  have HI := Lib.hid (inf_size infR32 lr hrl2); have HS := Lib.hid (st_size lr hrl2); have HO := Lib.hid (all_oneCell_toArray hro)
  have HL := Lib.hid (show (Tryd.prog.info? 23).map (·.size) = some lr.length by rw [hrl2]; exact infR32)
  have HI2 := Lib.hid (inf_size infD32 lr hrl2)
  have HL2 := Lib.hid (show (Tryd.prog.info? 24).map (·.size) = some lr.length by rw [hrl2]; exact infD32)
  have hu := Lib.hid Tryd.underlying24
  have huR := Lib.hid Tryd.underlying23
  have HK := Lib.hid hK
  have HALL := Lib.hid hall
  clear hn hs hlen hR hro hK hall hrl2
  go_enter Tryd.func7, Tryd.ntmps7
  go_wp2_with fail
  refine (known_any _ HK.out).mono ?_
  rintro e w1 ⟨rfl, hb1⟩
  have HB1 := Lib.hid hb1
  have HK1 := Lib.hid (HK.out.below hb1 (Nat.le_refl _))
  clear hb1
  go_wp2_with fail
  refine (hlv _).mono ?_
  rintro e w2 ⟨vl, rfl, hD2, hb2⟩
  obtain ⟨al, cl, rfl⟩ := hD2.shape
  have HB2 := Lib.hid (HB1.out.trans (hb2.mono HB1.out.size))
  have HK2 := Lib.hid (HK1.out.below hb2 (Nat.le_refl _))
  have HD2 := Lib.hid hD2
  clear hb2 hD2 HB1 HK1
  go_wp2_with fail
  refine (grown_any LS _ w2 (by omega) HD2.out HK2.out).mono ?_
  rintro e w3 ⟨g, u, rfl, hT3, hb3⟩
  have HB3 := Lib.hid (HB2.out.trans (hb3.mono HB2.out.size))
  have HD3 := Lib.hid (HD2.out.below hb3 (Nat.le_refl _))
  have HT3 := Lib.hid hT3; have HBB := Lib.hid hb3
  clear hT3 hb3
  go_wp2_with fail
  refine (hroot _ _ HD3.out).mono ?_
  rintro e w4 ⟨rfl, hb4⟩
  rw [HR.out]
  have hT4 := HT3.out.below hb4
  have hBB4 := HBB.out.trans (hb4.mono HBB.out.size)
  have HV := Lib.hid (one_var w4 23 lr)
  have HT4 := Lib.hid hT4; have HBB4 := Lib.hid hBB4
  clear hT4 hb4 hBB4 HT3 HBB HD3 hroot hlv
  go_upto_region 8 with ((with_reducible refine at_st 23 (.tmp 8) (.tmp 27) ?_); refine wpList_store_row rfl 23 (.tmp 8) (.tmp 27) rfl w4.heap.size lr.toArray rfl rfl 23 _ HV.out.1 HI.out HS.out HO.out ?_)
  have ⟨_, hA8, hB5, _⟩ := HV.out
  clear HV
  change Code.wp _ _ _ _ ((w4.alloc (Z32 23)).setRow w4.heap.size lr.toArray)
  generalize (w4.alloc (Z32 23)).setRow w4.heap.size lr.toArray = w5 at *
  have hT5 := HT4.out.below hB5
  have hBB5 := HBB4.out.trans (hB5.mono HBB4.out.size)
  have hg8 : g < w4.heap.size := HT4.out.lt
  generalize w4.heap.size = b8 at *
  have HT5 := Lib.hid hT5; have HBB5 := Lib.hid hBB5; have HA8 := Lib.hid hA8
  clear HT4 HBB4 hB5 hT5 hBB5 hA8
  go_wp2_with fail
  go_loopw [9] (fun i wr => ∃ k : Nat, k ≤ LS.length ∧ i = .int .i64 k ∧ PT w5 w2.heap.size g LS u (.map none) wr) (fun i _ => LS.length - (intOf i).toNat)
  case atStart => exact ⟨0, by omega, rfl, PT.below HT5.out (Below.refl _ _)⟩
  case round =>
    obtain ⟨k, hk, rfl, hP⟩ := hrel
    have hBr := HBB5.out.trans (hP.base HT5.out)
    by_cases hlt : k < LS.length
    · obtain ⟨mvr, hTr⟩ := hP.tr
      have hinc := Include_ok w2.heap.size g LS (by omega) k LS.length wr u mvr (Nat.le_refl _) hlt hTr
      have hpl := pinc_from LS LS.length k 0 LS.length (by omega) (by omega) hlt (Nat.le_refl _)
      have hpa := pinc_all LS HALL.out LS.length k 0 LS.length (by omega) (by omega) (Nat.le_refl _)
      rw [Nat.sub_zero, Nat.sub_zero, seg_whole, ← mtree_pos LS (by omega)] at hpl
      have hp20 : (pinc LS k 0 LS.length).length ≤ 6 := by rw [hpl.1]; exact plong_le 6 k LS.length (by have := h41; simp; omega)
      have hS : fromS (LS.getD k []) (k : Int) (LS.length : Int) (pinc LS k 0 LS.length) = (mtree LS, 0) := by
        unfold fromS
        rw [if_neg (by omega)]
        simp only [Int.toNat_natCast]
        rw [if_pos hpl.1, hpl.2]
      have hfrom := fun v w hV hK => from_any (LS.getD k []) k LS.length (pinc LS k 0 LS.length) v w (getD_mem_32 LS HALL.out k hlt) (by omega) hV hK
      rw [hS] at hfrom
      obtain ⟨gl, o, cap, hv, hcap, hgl, hr⟩ := HD2.out.pos (by omega)
      simp only [Value.slice.injEq] at hv
      obtain ⟨rfl, -, rfl⟩ := hv
      have hrk := range_below (hr k hlt) hBr hgl
      have hd := getD_mem_32 LS HALL.out k hlt
      generalize LS.getD k [] = d at *
      obtain ⟨ld, hD, hdm, hdl, hdo⟩ := v8_list d hd
      rw [← hdm] at hrk
      rw [hD] at hfrom
      have HRK := Lib.hid hrk
      have HLD := Lib.hid (show (Tryd.prog.info? 23).map (·.size) = some ld.length by rw [hdl]; exact infR32)
      have HP := Lib.hid hP; have HTr := Lib.hid hTr; have HPA := Lib.hid hpa; have HBr := Lib.hid hBr
      generalize pinc LS k 0 LS.length = pp at *
      have hA8r := Lib.hid (hP.arr HT5.out HA8.out (by omega))
      have hgl2 : gl < wr.heap.size := Nat.lt_of_lt_of_le hgl hBr.size
      clear hr hrk hD hdm hdl hdo hd hP hTr hpl hpa hS hcap hBr
      go_wp2_with fail
      refine hinc.mono ?_
      rintro e w6 ⟨v6, rfl, hO6, hP6⟩
      obtain ⟨a6, c6, rfl⟩ := hO6.shape
      have hD6 := hO6.digs HPA.out
      obtain ⟨mv6, hT6⟩ := hP6.tr
      have HR6 := Lib.hid (range_below HRK.out (hP6.base HTr.out) (by have := HTr.out.size; have := HBB5.out.size; omega))
      have hA86 := Lib.hid (hP6.arr HTr.out hA8r.out (by omega))
      have HP6 := Lib.hid (HP.out.trans1 HTr.out hP6)
      have HD6 := Lib.hid hD6; have HT6 := Lib.hid hT6
      clear hinc hO6 hD6 hT6 hP6 HRK hA8r HTr HP
      go_wp2_with ((with_reducible refine at_ld 23 (.tmp 45) ?_); refine wpList_load_mid rfl 23 (.tmp 45) rfl gl (o + k * 32) rfl ld _ HR6.out huR.out rfl HLD.out ?_)
      refine (hfrom _ _ HD6.out HT6.out.kt).mono ?_
      rintro e w7 ⟨rfl, hb7⟩
      rw [HR.out]
      have HV7 := Lib.hid (one_var w7 24 lr)
      have HP7 := Lib.hid (HP6.out.andBelow hb7)
      have hA87 := Lib.hid (hA86.out.below hb7 hA86.out.lt)
      clear hb7 HP6 HD6 HT6 HR6 hA86 hfrom
      go_upto_region 13 with ((with_reducible refine at_st 24 (.tmp 12) (.tmp 52) ?_); refine wpList_store_row rfl 24 (.tmp 12) (.tmp 52) rfl w7.heap.size lr.toArray rfl rfl 24 _ HV7.out.1 HI2.out HS.out HO.out ?_)
      have ⟨_, hA12, hB8, _⟩ := HV7.out
      clear HV7
      change Code.wp _ _ _ _ ((w7.alloc (Z32 24)).setRow w7.heap.size lr.toArray)
      generalize (w7.alloc (Z32 24)).setRow w7.heap.size lr.toArray = w8 at *
      have hA88 := hA87.out.below hB8 hA87.out.lt
      have HP8 := Lib.hid (HP7.out.andBelow hB8)
      have hpd : decide ((20 : Int) < (pp.length : Int)) = false := decide_eq_false (by omega)
      have hpn : ¬ (20 : Int) < (pp.length : Int) := by omega
      generalize w7.heap.size = b12 at *
      clear hB8 HP7 hA87
      refine wp_region_listed 15 [] (Below w8.heap.size w8) (by decide) (Stable.below w8) (Below.refl _ _) ?_
      simp only [List.range, List.range.loop, opsOf, List.getElem?_cons_succ, List.getElem?_cons_zero, List.drop_succ_cons, List.drop_zero]
      refine wpL_val ?v2 rfl (by rfl) (fun wq hq => ?y2) ?z2
      case y2 => go_simp; with_reducible rfl
      try simp only [Act.put, List.setIfInBounds_toArray, List.set_cons_zero, List.set_cons_succ]
      refine wpL_val ?v3 rfl (by rfl) (fun wq hq => ?y3) ?z3
      case y3 => go_simp; with_reducible rfl
      try simp only [Act.put, List.setIfInBounds_toArray, List.set_cons_zero, List.set_cons_succ]
      refine wpL_val ?v4 rfl (by rfl) (fun wq hq => ?y4) ?z4
      case y4 => go_simp; with_reducible rfl
      try simp only [Act.put, List.setIfInBounds_toArray, List.set_cons_zero, List.set_cons_succ]
      refine wpL_val ?v5 rfl (by rfl) (fun wq hq => ?y5) ?z5
      case y5 => go_simp; with_reducible rfl
      try simp only [Act.put, List.setIfInBounds_toArray, List.set_cons_zero, List.set_cons_succ]
      refine wpL_val ?v6 rfl (by rfl) (fun wq hq => ?y6) ?z6
      case y6 => go_simp; with_reducible rfl
      try simp only [Act.put, List.setIfInBounds_toArray, List.set_cons_zero, List.set_cons_succ]
      refine wpL_val ?v7 rfl (by rfl) (fun wq hq => ?y7) ?z7
      case y7 => go_simp; with_reducible rfl
      try simp only [Act.put, List.setIfInBounds_toArray, List.set_cons_zero, List.set_cons_succ]
      refine wpL_val ?v8 rfl (by rfl) (fun wq hq => ?y8) ?z8
      case y8 => go_simp; with_reducible rfl
      try simp only [Act.put, List.setIfInBounds_toArray, List.set_cons_zero, List.set_cons_succ]
      refine wpL_val (.agg lr.toArray) rfl (by rfl) (fun wq hq => quiet_ld 24 _ rfl _ _ rfl lr _ (range_below hA12.range hq hA12.lt) hu.out rfl HL2.out) ?_
      try simp only [Act.put, List.setIfInBounds_toArray, List.set_cons_zero, List.set_cons_succ]
      refine wpL_val (.agg lr.toArray) rfl (by rfl) (fun wq hq => quiet_ld 23 _ rfl _ _ rfl lr _ (range_below hA88.range hq hA88.lt) huR.out rfl HL.out) ?_
      try simp only [Act.put, List.setIfInBounds_toArray, List.set_cons_zero, List.set_cons_succ]
      refine wpL_val (.bool (!true)) rfl (by rfl) (fun wq hq => quiet_neq 23 _ _ _ rfl _ _ rfl rfl guardR true ((eqlR (mtree LS) (mtree LS) hrl (by exact hrl) _ _ HR.out HR.out wq).trans (by rw [decide_eq_true rfl]))) ?_
      try simp only [Act.put, List.setIfInBounds_toArray, List.set_cons_zero, List.set_cons_succ]
      refine wpL_val ?v12 rfl (by rfl) (fun wq hq => ?y12) ?z12
      case y12 => go_simp; with_reducible rfl
      try simp only [Act.put, List.setIfInBounds_toArray, List.set_cons_zero, List.set_cons_succ]
      refine wpL_val ?v13 rfl (by rfl) (fun wq hq => ?y13) ?z13
      case y13 => go_simp; with_reducible rfl
      try simp only [Act.put, List.setIfInBounds_toArray, List.set_cons_zero, List.set_cons_succ]
      refine wpL_val ?v14 rfl (by rfl) (fun wq hq => ?y14) ?z14
      case y14 => go_simp; with_reducible rfl
      try simp only [Act.put, List.setIfInBounds_toArray, List.set_cons_zero, List.set_cons_succ]
      refine wpL_val ?v15 rfl (by rfl) (fun wq hq => ?y15) ?z15
      case y15 => go_simp; with_reducible rfl
      try simp only [Act.put, List.setIfInBounds_toArray, List.set_cons_zero, List.set_cons_succ]
      refine wpL_val ?v16 rfl (by rfl) (fun wq hq => ?y16) ?z16
      case y16 => go_simp; with_reducible rfl
      try simp only [Act.put, List.setIfInBounds_toArray, List.set_cons_zero, List.set_cons_succ]
      refine wpL_nil ?_
      intro w9 hw9
      have HP9 := Lib.hid (HP8.out.andBelow hw9)
      clear hA12 hA88 hw9 HP8
      go_wp2_with fail
      go_roundw
      case rel => exact ⟨k + 1, by omega, by go_num, HP9.out⟩
      case measure => simp [intOf]; omega
    · obtain rfl : k = LS.length := by omega
      have hBw := HB2.out.trans (hBr.mono HB2.out.size)
      go_wp2_with fail
      go_ret
      exact ⟨rfl, hBw⟩
end Go.Proofs.YteehpfccegnjjaaDoor
