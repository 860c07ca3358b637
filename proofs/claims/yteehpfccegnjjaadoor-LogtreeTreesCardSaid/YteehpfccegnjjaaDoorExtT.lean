/-
  The contracts of Tree.extend and Tree.Extend, and of the law's back.
-/
import Derived.Test.YteehpfccegnjjaaDoorPexP
namespace Go.Proofs.YteehpfccegnjjaaDoor
open Go Go.RowKit
set_option maxRecDepth 100000 in
set_option linter.unusedSimpArgs false in
set_option maxHeartbeats 1000000 in
theorem extend_any (base g : Nat) (ds : List (List UInt8)) (hmax : ds.length < 1048576) (N : Nat) : ∀ (fr n to m : Nat) (whole : Bool) (w : World) (v mv : Value), n ≤ N → 1 ≤ n → to = fr + n → to ≤ ds.length → fr < m → m ≤ to → Tr w base g ds v mv →
    Calls Tryd.prog 60 #[.pointer (some ⟨g, 0, none⟩), .int .i64 m, .int .i64 fr, .int .i64 to, .bool whole] w fun e w' => ∃ v', e = .returned v' ∧ Own w' w.heap.size 24 32 v' (pexn ds m fr to whole).length (flat (pexn ds m fr to whole)) ∧ PT w base g ds v mv w' := by
  induction N with
  | zero => intro fr n to m whole w v mv h1 h2; omega
  | succ N ih =>
    intro fr n to m whole w v mv hN h1 hto hle hi1 hi2 hT
    have hT := Lib.hid hT
    have hp := pexn.eq_1 ds m fr to whole
    have hpi := fun a b (h : a < b) (hb : b ≤ ds.length) => seg_root_length ds hT.out.all a b h hb
    by_cases hmt : m = to
    · subst hmt
      rw [if_pos rfl] at hp
      cases whole with
      | true =>
        have hp' : pexn ds m fr m true = [] := hp
        rw [hp']
        clear hp hp' ih hpi hto hle hmax hN
        go_enter Tryd.func60, Tryd.ntmps60
        go_wp2_with fail
        go_ret
        exact ⟨_, rfl, Own.nil _ _ _ _, PT.below hT.out (Below.refl _ _)⟩
      | false =>
        have hp' : pexn ds m fr m false = [mroot (seg ds fr m)] := hp
        rw [hp']
        have hpart := fun w mv hT => part_any base g ds hmax n fr n m w v mv (Nat.le_refl _) h1 hto hle hT
        have hdl0 := hpi fr m (by omega) hle
        generalize mroot (seg ds fr m) = d at *
        obtain ⟨ld, hD, hdm, hdl, hdo⟩ := v8_list d hdl0
        have HD := Lib.hid hD
        have hsz : ∀ v ∈ ([.agg ld.toArray] : List Value), v.cells.size = 32 := by intro v hv; simp at hv; subst hv; simpa [Value.cells] using hdl
        have HDM := Lib.hid hdm; have HDL := Lib.hid hdl
        clear hp hp' ih hpi hto hle hmax hN hD hdm hdl0 hdo hdl
        go_enter Tryd.func60, Tryd.ntmps60
        go_wp2_with fail
        refine (hpart _ _ hT.out).mono ?_
        rintro e w2 ⟨rfl, hP2⟩
        rw [HD.out]
        have HP2 := Lib.hid hP2
        clear hP2 hpart
        go_wp2_with ((with_reducible refine at_bs _ _ #[(0, .tmp 19)] ?_); go_must (refine wpList_bs rfl 29 24 1 _ rfl [.agg ld.toArray] rfl hsz rfl (by decide) (by decide) Tryd.underlying29 i32D ?_); rw [one_flat])
        go_ret
        refine ⟨_, rfl, ?_, HP2.out.andBelow (below_alloc _ _)⟩
        have hA := Arr.new w2 24 ld
        have hs := HP2.out.size
        have hl := HDL.out
        refine ⟨by simp [flat, ← HDM.out, hl], .inr ⟨w2.heap.size, 1, ld.toArray, (0, 0), rfl, hs, hA, by simp [hl], Nat.le_refl _, by unfold maxLen; omega, .inl (Nat.le_refl _), ?_⟩⟩
        simp [flat, ← HDM.out]
        exact List.take_of_length_le (by omega)
    · have h2 : 2 ≤ n := by omega
      have hmti : ¬ (m : Int) = (to : Int) := by omega
      have hsub : IntKind.i64.wrap ((to : Int) - (fr : Int)) = (n : Int) := by rw [show ((to : Int) - (fr : Int)) = (n : Int) by omega]; apply IntWalk.i64_in <;> omega
      have hl := left_any n h2 (by omega)
      have hlp1 := lp_pos n
      have hlp2 := lp_lt n h2
      rw [show to - fr = n by omega, if_neg hmt, if_pos h2] at hp
      have hplen := fun m a b wh (h : a < m) (h1 : m ≤ b) => pexn_len ds (b - a) m a b wh (Nat.le_refl _) h h1
      have hplt := fun m n wh => pexl_le n m n wh (Nat.le_refl _)
      by_cases hc : m ≤ fr + lp n
      · have hih := fun w mv hT => ih fr (lp n) (fr + lp n) m whole w v mv (by omega) hlp1 rfl (by omega) hi1 hc hT
        have hpart := fun w mv hT => part_any base g ds hmax n (fr + lp n) (n - lp n) to w v mv (by omega) (by omega) (by omega) hle hT
        rw [if_pos hc] at hp
        have hdl0 := hpi (fr + lp n) to (by omega) hle
        have hpl0 := hplen m fr (fr + lp n) whole hi1 hc
        have hpl1 := hplt (m - fr) (fr + lp n - fr) whole
        have hadd : IntKind.i64.wrap ((fr : Int) + (lp n : Int)) = ((fr + lp n : Nat) : Int) := by rw [show ((fr : Int) + (lp n : Int)) = ((fr + lp n : Nat) : Int) by omega]; apply IntWalk.i64_in <;> omega
        have hppm : (pexn ds m fr (fr + lp n) whole).length < 1048576 := by omega
        generalize mroot (seg ds (fr + lp n) to) = d at *
        generalize pexn ds m fr (fr + lp n) whole = pp at *
        generalize fr + lp n = mid at *
        generalize lp n = k at *
        have hci : (m : Int) ≤ (mid : Int) := by omega
        obtain ⟨ld, hD, hdm, hdl, hdo⟩ := v8_list d hdl0
        have HE := Lib.hid hp; have HD := Lib.hid hD
        have hsz : ∀ v ∈ ([.agg ld.toArray] : List Value), v.cells.size = 32 := by intro v hv; simp at hv; subst hv; simpa [Value.cells] using hdl
        have HDM := Lib.hid hdm; have HPM := Lib.hid hppm
        clear hdm hppm hpi hplen hplt hp ih hD hN hle hto hmax hlp1 hlp2 hpl0 hpl1 hdl0
        go_enter Tryd.func60, Tryd.ntmps60
        go_wp2_with (go_at_call 66; refine (hl _).mono ?_; rintro e w1 ⟨rfl, rfl⟩)
        refine (hih _ _ hT.out).mono ?_
        rintro e w2 ⟨v2, rfl, hO2, hP2⟩
        obtain ⟨a2, c2, rfl⟩ := hO2.shape
        obtain ⟨mv2, hT2⟩ := hP2.tr
        have HP2 := Lib.hid hP2; have HO2 := Lib.hid hO2
        clear hO2 hP2 hih
        go_wp2_with fail
        refine (hpart _ _ hT2).mono ?_
        rintro e w3 ⟨rfl, hP3⟩
        rw [HD.out]
        have hO3 := hP3.own hT2 HO2.out (fun e => by have := (HO2.out.lt _ e).1; have := hT.out.lt; omega)
        have hP3' := HP2.out.trans1 hT2 hP3
        have hs3 := hP3'.size
        have HP3 := Lib.hid hP3'
        clear hP3 hP3' HP2 HO2 hT2 hpart
        have hppm := HPM.out
        generalize hpl : pp.length = pl at *
        go_wp2_with (first | ((with_reducible refine at_bs _ _ #[(0, .tmp 39)] ?_); go_must (refine wpList_bs rfl 29 24 1 _ rfl [.agg ld.toArray] rfl hsz rfl (by decide) (by decide) Tryd.underlying29 i32D ?_); rw [one_flat]) | ((with_reducible refine at_app (.tmp 35) (.tmp 40) ?_); go_must (refine wpList_app32 rfl (.tmp 35) (.tmp 40) 29 rfl w.heap.size 24 i32D Tryd.underlying29 _ _ _ rfl (hO3.alloc _) ⟨w3.heap.size, 0, none⟩ 1 ld rfl hdl (news_row _ _ _) hdo ?_ ?_ ?_); omega; (simp; omega); intro v4 w4 hA4))
        obtain ⟨a4, c4, rfl⟩ := hA4.1.shape
        have hP4 := (HP3.out.andBelow (below_alloc _ _)).grown hT.out (hO3.alloc _) (Nat.le_refl _) hA4.2.1
        go_ret
        refine ⟨_, rfl, ?_, hP4⟩
        rw [HE.out, List.length_append, hpl]
        have := hA4.1
        rw [HDM.out] at this
        simpa [flat] using this
      · have hih := fun w mv hT => ih (fr + lp n) (n - lp n) to m false w v mv (by omega) (by omega) (by omega) hle (by omega) hi2 hT
        have hpart := fun w mv hT => part_any base g ds hmax n fr (lp n) (fr + lp n) w v mv (by omega) hlp1 rfl (by omega) hT
        rw [if_neg hc] at hp
        have hdl0 := hpi fr (fr + lp n) (by omega) (by omega)
        have hpl0 := hplen m (fr + lp n) to false (by omega) hi2
        have hpl1 := hplt (m - (fr + lp n)) (to - (fr + lp n)) false
        have hadd : IntKind.i64.wrap ((fr : Int) + (lp n : Int)) = ((fr + lp n : Nat) : Int) := by rw [show ((fr : Int) + (lp n : Int)) = ((fr + lp n : Nat) : Int) by omega]; apply IntWalk.i64_in <;> omega
        have hppm : (pexn ds m (fr + lp n) to false).length < 1048576 := by omega
        generalize mroot (seg ds fr (fr + lp n)) = d at *
        generalize pexn ds m (fr + lp n) to false = pp at *
        generalize fr + lp n = mid at *
        generalize lp n = k at *
        have hci : ¬ (m : Int) ≤ (mid : Int) := by omega
        obtain ⟨ld, hD, hdm, hdl, hdo⟩ := v8_list d hdl0
        have HE := Lib.hid hp; have HD := Lib.hid hD
        have hsz : ∀ v ∈ ([.agg ld.toArray] : List Value), v.cells.size = 32 := by intro v hv; simp at hv; subst hv; simpa [Value.cells] using hdl
        have HDM := Lib.hid hdm; have HPM := Lib.hid hppm
        clear hdm hppm hpi hplen hplt hp ih hD hN hle hto hmax hlp1 hlp2 hpl0 hpl1 hdl0
        go_enter Tryd.func60, Tryd.ntmps60
        go_wp2_with (go_at_call 66; refine (hl _).mono ?_; rintro e w1 ⟨rfl, rfl⟩)
        refine (hih _ _ hT.out).mono ?_
        rintro e w2 ⟨v2, rfl, hO2, hP2⟩
        obtain ⟨a2, c2, rfl⟩ := hO2.shape
        obtain ⟨mv2, hT2⟩ := hP2.tr
        have HP2 := Lib.hid hP2; have HO2 := Lib.hid hO2
        clear hO2 hP2 hih
        go_wp2_with fail
        refine (hpart _ _ hT2).mono ?_
        rintro e w3 ⟨rfl, hP3⟩
        rw [HD.out]
        have hO3 := hP3.own hT2 HO2.out (fun e => by have := (HO2.out.lt _ e).1; have := hT.out.lt; omega)
        have hP3' := HP2.out.trans1 hT2 hP3
        have hs3 := hP3'.size
        have HP3 := Lib.hid hP3'
        clear hP3 hP3' HP2 HO2 hT2 hpart
        have hppm := HPM.out
        generalize hpl : pp.length = pl at *
        go_wp2_with (first | ((with_reducible refine at_bs _ _ #[(0, .tmp 50)] ?_); go_must (refine wpList_bs rfl 29 24 1 _ rfl [.agg ld.toArray] rfl hsz rfl (by decide) (by decide) Tryd.underlying29 i32D ?_); rw [one_flat]) | ((with_reducible refine at_app (.tmp 46) (.tmp 51) ?_); go_must (refine wpList_app32 rfl (.tmp 46) (.tmp 51) 29 rfl w.heap.size 24 i32D Tryd.underlying29 _ _ _ rfl (hO3.alloc _) ⟨w3.heap.size, 0, none⟩ 1 ld rfl hdl (news_row _ _ _) hdo ?_ ?_ ?_); omega; (simp; omega); intro v4 w4 hA4))
        obtain ⟨a4, c4, rfl⟩ := hA4.1.shape
        have hP4 := (HP3.out.andBelow (below_alloc _ _)).grown hT.out (hO3.alloc _) (Nat.le_refl _) hA4.2.1
        go_ret
        refine ⟨_, rfl, ?_, hP4⟩
        rw [HE.out, List.length_append, hpl]
        have := hA4.1
        rw [HDM.out] at this
        simpa [flat] using this
set_option maxRecDepth 100000 in
set_option linter.unusedSimpArgs false in
set_option maxHeartbeats 1000000 in
theorem Extend_ok (base g : Nat) (ds : List (List UInt8)) (hmax : ds.length < 1048576) (m n : Nat) (w : World) (v mv : Value) (hn : n ≤ ds.length) (hi : m ≤ n) (hT : Tr w base g ds v mv) :
    Calls Tryd.prog 31 #[.pointer (some ⟨g, 0, none⟩), .int .i64 m, .int .i64 n] w fun e w' => ∃ v', e = .returned (.tuple #[v', .int .i64 0]) ∧ Own w' w.heap.size 24 32 v' (pexS ds m n).length (flat (pexS ds m n)) ∧ PT w base g ds v mv w' := by
  have hext := fun (h : 1 ≤ m) => extend_any base g ds hmax n 0 n n m true w v mv (Nat.le_refl _) (by omega) (by omega) hn (by omega) hi hT
  obtain ⟨av, cv, rfl⟩ := hT.own.shape
  have c0 := hT.arr.cell 0
  simp only [List.getElem?_cons_zero] at c0
  have h1 : ¬ (n : Int) < 0 := by omega
  have h2 : ¬ (ds.length : Int) < (n : Int) := by omega
  have h3 : ¬ (m : Int) < 0 := by omega
  have h4 : ¬ (n : Int) < (m : Int) := by omega
  have d1 : decide ((n : Int) < 0) = false := decide_eq_false h1
  have d2 : decide ((ds.length : Int) < (n : Int)) = false := decide_eq_false h2
  have d3 : decide ((m : Int) < 0) = false := decide_eq_false h3
  have d4 : decide ((n : Int) < (m : Int)) = false := decide_eq_false h4
  have HT := Lib.hid hT
  by_cases hm0 : m = 0
  · have hp : pexS ds m n = [] := by unfold pexS; rw [if_pos hm0]
    rw [hp]
    subst hm0
    clear hT hp hmax hn hi hext
    generalize ds.length = k at *
    go_enter Tryd.func31, Tryd.ntmps31
    go_wp2_with fail
    go_ret2
    exact ⟨_, rfl, Own.nil _ _ _ _, PT.below HT.out (Below.refl _ _)⟩
  · have hp : pexS ds m n = pexn ds m 0 n true := by unfold pexS; rw [if_neg hm0]
    rw [hp]
    replace hext := hext (by omega)
    have hm0i : ¬ (m : Int) = 0 := by omega
    generalize pexn ds m 0 n true = pp at *
    clear hT hp hmax hn hi
    generalize ds.length = k at *
    go_enter Tryd.func31, Tryd.ntmps31
    go_wp2_with fail
    refine hext.mono ?_
    rintro e w2 ⟨v2, rfl, hO2, hP2⟩
    obtain ⟨a2, c2, rfl⟩ := hO2.shape
    go_wp2_with fail
    go_ret2
    exact ⟨_, rfl, hO2, hP2⟩
set_option maxRecDepth 100000 in
set_option maxHeartbeats 4000000 in
theorem back_any (ds : List (List UInt8)) (v : Value) (w : World) (hmax : ds.length ≤ 1048576) (hV : Digs w v ds) :
    Calls Tryd.prog 32 #[v] w fun e w' => (∃ v', e = .returned v' ∧ Digs w' v' ds) ∧ Below w.heap.size w w' := by
  obtain ⟨av, cv, rfl⟩ := hV.shape
  go_enter Tryd.func32, Tryd.ntmps32
  go_wp2_with fail
  go_loopw [3, 4] (fun v i wr => ∃ k : Nat, k ≤ ds.length ∧ i = .int .i64 k ∧ DMine w 23 (ds.take k) v wr) (fun _ i _ => ds.length - (intOf i).toNat)
  case atStart => exact ⟨0, by omega, rfl, by simpa using DMine.nil w _⟩
  case round =>
    obtain ⟨k, hk, rfl, hR⟩ := hrel
    by_cases hlt : k < ds.length
    · obtain ⟨g, o, cap, hv, hcap, hg, hr⟩ := hV.pos (by omega)
      simp only [Value.slice.injEq] at hv
      obtain ⟨rfl, -, rfl⟩ := hv
      have hr1 := range_below (hr k hlt) hR.below hg
      have hd : (ds.getD k []).length = 32 := by rw [List.getD_eq_getElem?_getD, List.getElem?_eq_getElem hlt]; exact hV.all _ (List.getElem_mem hlt)
      have hsn : ds.take (k + 1) = ds.take k ++ [ds.getD k []] := by rw [List.take_succ_eq_append_getElem hlt, List.getD_eq_getElem?_getD, List.getElem?_eq_getElem hlt]; rfl
      generalize ds.getD k [] = d at *
      generalize hld : d.map V8 = ld at *
      have hdl : ld.length = 32 := by rw [← hld]; simpa using hd
      have hi' : (Tryd.prog.info? 24).map (·.size) = some ld.length := by rw [hdl]; kernel_rfl
      have hu := Tryd.underlying24
      have hlk : (ds.take k).length = k := by rw [List.length_take]; omega
      clear hr
      generalize ds.take k = q at *
      obtain ⟨a2, c2, rfl⟩ := hR.2.shape
      have hO := hR.2
      have hs := hR.1.size
      have hdo : ∀ v ∈ ld, v.oneCell' = true := by rw [← hld]; intro v hv; obtain ⟨x, _, rfl⟩ := List.mem_map.1 hv; rfl
      have hsz : ∀ v ∈ ([.agg ld.toArray] : List Value), v.cells.size = 32 := by intro v hv; simp at hv; subst hv; simpa [Value.cells] using hdl
      rw [hlk] at hO hR ⊢
      go_wp2_with (first | ((with_reducible refine at_ld 24 (.tmp 14) ?_); refine wpList_load_mid rfl 24 (.tmp 14) rfl g (o + k * 32) rfl ld _ hr1 hu rfl hi' ?_) | ((with_reducible refine at_bs _ _ #[(0, .tmp 15)] ?_); go_must (refine wpList_bs rfl 22 23 1 _ rfl [.agg ld.toArray] rfl hsz rfl (by decide) (by decide) Tryd.underlying22 i32R ?_); rw [one_flat]) | ((with_reducible refine at_app (.tmp 11) (.tmp 16) ?_); go_must (refine wpList_app32 rfl (.tmp 11) (.tmp 16) 22 rfl w.heap.size 23 i32R Tryd.underlying22 _ _ _ rfl (hO.alloc _) ⟨wr.heap.size, 0, none⟩ 1 ld rfl hdl (news_row _ _ _) hdo ?_ ?_ ?_); omega; (simp; omega); intro v3 w3 hA; have hR3 := hR.more hlk.symm (grownBy_alloc _ _) hA hld.symm))
      go_roundw
      case rel => exact ⟨k + 1, by omega, by go_num, by rw [hsn]; exact hR3⟩
      case measure => simp [intOf]; omega
    · obtain rfl : k = ds.length := by omega
      rw [List.take_length] at hR
      obtain ⟨a2, c2, rfl⟩ := hR.2.shape
      have hall := hV.all
      go_wp2_with fail
      go_ret
      exact ⟨⟨_, rfl, hR.2.digs hall⟩, hR.below⟩
end Go.Proofs.YteehpfccegnjjaaDoor
