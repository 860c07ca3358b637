/-
  The contracts of Tree.include and Tree.Include.
-/
import Derived.Test.YteehpfccegnjjaaDoorIncP
namespace Go.Proofs.YteehpfccegnjjaaDoor
open Go Go.RowKit
set_option maxRecDepth 100000 in
set_option linter.unusedSimpArgs false in
set_option maxHeartbeats 1000000 in
theorem include_any (base g : Nat) (ds : List (List UInt8)) (hmax : ds.length < 1048576) (N : Nat) : ∀ (fr n to idx : Nat) (w : World) (v mv : Value), n ≤ N → 1 ≤ n → to = fr + n → to ≤ ds.length → fr ≤ idx → idx < to → Tr w base g ds v mv →
    Calls Tryd.prog 59 #[.pointer (some ⟨g, 0, none⟩), .int .i64 idx, .int .i64 fr, .int .i64 to] w fun e w' => ∃ v', e = .returned v' ∧ Own w' w.heap.size 24 32 v' (pinc ds idx fr to).length (flat (pinc ds idx fr to)) ∧ PT w base g ds v mv w' := by
  induction N with
  | zero => intro fr n to idx w v mv h1 h2; omega
  | succ N ih =>
    intro fr n to idx w v mv hN h1 hto hle hi1 hi2 hT
    have hsub : IntKind.i64.wrap ((to : Int) - (fr : Int)) = (n : Int) := by rw [show ((to : Int) - (fr : Int)) = (n : Int) by omega]; apply IntWalk.i64_in <;> omega
    have hT := Lib.hid hT
    by_cases hn1 : n = 1
    · subst hn1
      have HT := Lib.hid hto
      clear hN hle hto hmax ih
      go_enter Tryd.func59, Tryd.ntmps59
      go_wp2_with fail
      go_ret
      refine ⟨_, rfl, ?_, PT.below hT.out (Below.refl _ _)⟩
      rw [pinc, if_neg (by have := HT.out; omega)]
      exact Own.nil _ _ _ _
    · have h2 : 2 ≤ n := by omega
      have hni : ¬ (n : Int) = 1 := by omega
      have hl := left_any n h2 (by omega)
      have hlp1 := lp_pos n
      have hlp2 := lp_lt n h2
      have hp := pinc.eq_1 ds idx fr to
      rw [show to - fr = n by omega, if_pos h2] at hp
      have hpi := fun a b (h : a < b) (hb : b ≤ ds.length) => seg_root_length ds hT.out.all a b h hb
      have hplen := fun a b (h : a ≤ idx) (h1 : idx < b) (hb : b ≤ ds.length) => (pinc_from ds ds.length idx a b (by omega) h h1 hb).1
      have hplt := fun a b (h : a < b) => plong_lt (b - a) (idx - a) (b - a) (Nat.le_refl _) (by omega)
      by_cases hc : idx < fr + lp n
      · have hih := fun w mv hT => ih fr (lp n) (fr + lp n) idx w v mv (by omega) hlp1 rfl (by omega) hi1 hc hT
        have hpart := fun w mv hT => part_any base g ds hmax n (fr + lp n) (n - lp n) to w v mv (by omega) (by omega) (by omega) hle hT
        rw [if_pos hc] at hp
        have hdl0 := hpi (fr + lp n) to (by omega) hle
        have hpl0 := hplen fr (fr + lp n) hi1 hc (by omega)
        have hpl1 := hplt fr (fr + lp n) (by omega)
        have hadd : IntKind.i64.wrap ((fr : Int) + (lp n : Int)) = ((fr + lp n : Nat) : Int) := by rw [show ((fr : Int) + (lp n : Int)) = ((fr + lp n : Nat) : Int) by omega]; apply IntWalk.i64_in <;> omega
        have hppm : (pinc ds idx fr (fr + lp n)).length < 1048576 := by omega
        generalize mroot (seg ds (fr + lp n) to) = d at *
        generalize pinc ds idx fr (fr + lp n) = pp at *
        generalize fr + lp n = mid at *
        generalize lp n = k at *
        obtain ⟨ld, hD, hdm, hdl, hdo⟩ := v8_list d hdl0
        have HE := Lib.hid hp; have HD := Lib.hid hD
        have hsz : ∀ v ∈ ([.agg ld.toArray] : List Value), v.cells.size = 32 := by intro v hv; simp at hv; subst hv; simpa [Value.cells] using hdl
        have HDM := Lib.hid hdm; have HPM := Lib.hid hppm
        clear hdm hppm hpi hplen hplt hp ih hD hN hle hto hmax hlp1 hlp2 hpl0 hpl1 hdl0
        go_enter Tryd.func59, Tryd.ntmps59
        go_wp2_with (go_at_call 66; refine (hl _).mono ?_; rintro e w1 ⟨rfl, rfl⟩)
        refine (hih _ _ hT.out).mono ?_
        rintro e w2 ⟨v2, rfl, hO2, hP2⟩
        obtain ⟨a2, c2, rfl⟩ := hO2.shape
        obtain ⟨mv2, hT2⟩ := hP2.tr
        have HP2 := Lib.hid hP2; have HO2 := Lib.hid hO2
        clear hO2 hP2 hih
        go_wp2_with fail
        refine (hpart _ _ hT2).mono ?_
        rintro e w3 ⟨rfl, hP3⟩
        rw [HD.out]
        have hO3 := hP3.own hT2 HO2.out (fun e => by have := (HO2.out.lt _ e).1; have := hT.out.lt; omega)
        have hP3' := HP2.out.trans1 hT2 hP3
        have hs3 := hP3'.size
        have HP3 := Lib.hid hP3'
        clear hP3 hP3' HP2 HO2 hT2 hpart
        have hppm := HPM.out
        generalize hpl : pp.length = pl at *
        go_wp2_with (first | ((with_reducible refine at_bs _ _ #[(0, .tmp 31)] ?_); go_must (refine wpList_bs rfl 29 24 1 _ rfl [.agg ld.toArray] rfl hsz rfl (by decide) (by decide) Tryd.underlying29 i32D ?_); rw [one_flat]) | ((with_reducible refine at_app (.tmp 27) (.tmp 32) ?_); go_must (refine wpList_app32 rfl (.tmp 27) (.tmp 32) 29 rfl w.heap.size 24 i32D Tryd.underlying29 _ _ _ rfl (hO3.alloc _) ⟨w3.heap.size, 0, none⟩ 1 ld rfl hdl (news_row _ _ _) hdo ?_ ?_ ?_); omega; (simp; omega); intro v4 w4 hA4))
        obtain ⟨a4, c4, rfl⟩ := hA4.1.shape
        have hP4 := (HP3.out.andBelow (below_alloc _ _)).grown hT.out (hO3.alloc _) (Nat.le_refl _) hA4.2.1
        go_ret
        refine ⟨_, rfl, ?_, hP4⟩
        rw [HE.out, List.length_append, hpl]
        have := hA4.1
        rw [HDM.out] at this
        simpa [flat] using this
      · have hih := fun w mv hT => ih (fr + lp n) (n - lp n) to idx w v mv (by omega) (by omega) (by omega) hle (by omega) hi2 hT
        have hpart := fun w mv hT => part_any base g ds hmax n fr (lp n) (fr + lp n) w v mv (by omega) hlp1 rfl (by omega) hT
        rw [if_neg hc] at hp
        have hdl0 := hpi fr (fr + lp n) (by omega) (by omega)
        have hpl0 := hplen (fr + lp n) to (by omega) hi2 hle
        have hpl1 := hplt (fr + lp n) to (by omega)
        have hadd : IntKind.i64.wrap ((fr : Int) + (lp n : Int)) = ((fr + lp n : Nat) : Int) := by rw [show ((fr : Int) + (lp n : Int)) = ((fr + lp n : Nat) : Int) by omega]; apply IntWalk.i64_in <;> omega
        have hppm : (pinc ds idx (fr + lp n) to).length < 1048576 := by omega
        generalize mroot (seg ds fr (fr + lp n)) = d at *
        generalize pinc ds idx (fr + lp n) to = pp at *
        generalize fr + lp n = mid at *
        generalize lp n = k at *
        obtain ⟨ld, hD, hdm, hdl, hdo⟩ := v8_list d hdl0
        have HE := Lib.hid hp; have HD := Lib.hid hD
        have hsz : ∀ v ∈ ([.agg ld.toArray] : List Value), v.cells.size = 32 := by intro v hv; simp at hv; subst hv; simpa [Value.cells] using hdl
        have HDM := Lib.hid hdm; have HPM := Lib.hid hppm
        clear hdm hppm hpi hplen hplt hp ih hD hN hle hto hmax hlp1 hlp2 hpl0 hpl1 hdl0
        go_enter Tryd.func59, Tryd.ntmps59
        go_wp2_with (go_at_call 66; refine (hl _).mono ?_; rintro e w1 ⟨rfl, rfl⟩)
        refine (hih _ _ hT.out).mono ?_
        rintro e w2 ⟨v2, rfl, hO2, hP2⟩
        obtain ⟨a2, c2, rfl⟩ := hO2.shape
        obtain ⟨mv2, hT2⟩ := hP2.tr
        have HP2 := Lib.hid hP2; have HO2 := Lib.hid hO2
        clear hO2 hP2 hih
        go_wp2_with fail
        refine (hpart _ _ hT2).mono ?_
        rintro e w3 ⟨rfl, hP3⟩
        rw [HD.out]
        have hO3 := hP3.own hT2 HO2.out (fun e => by have := (HO2.out.lt _ e).1; have := hT.out.lt; omega)
        have hP3' := HP2.out.trans1 hT2 hP3
        have hs3 := hP3'.size
        have HP3 := Lib.hid hP3'
        clear hP3 hP3' HP2 HO2 hT2 hpart
        have hppm := HPM.out
        generalize hpl : pp.length = pl at *
        go_wp2_with (first | ((with_reducible refine at_bs _ _ #[(0, .tmp 42)] ?_); go_must (refine wpList_bs rfl 29 24 1 _ rfl [.agg ld.toArray] rfl hsz rfl (by decide) (by decide) Tryd.underlying29 i32D ?_); rw [one_flat]) | ((with_reducible refine at_app (.tmp 38) (.tmp 43) ?_); go_must (refine wpList_app32 rfl (.tmp 38) (.tmp 43) 29 rfl w.heap.size 24 i32D Tryd.underlying29 _ _ _ rfl (hO3.alloc _) ⟨w3.heap.size, 0, none⟩ 1 ld rfl hdl (news_row _ _ _) hdo ?_ ?_ ?_); omega; (simp; omega); intro v4 w4 hA4))
        obtain ⟨a4, c4, rfl⟩ := hA4.1.shape
        have hP4 := (HP3.out.andBelow (below_alloc _ _)).grown hT.out (hO3.alloc _) (Nat.le_refl _) hA4.2.1
        go_ret
        refine ⟨_, rfl, ?_, hP4⟩
        rw [HE.out, List.length_append, hpl]
        have := hA4.1
        rw [HDM.out] at this
        simpa [flat] using this
set_option maxRecDepth 100000 in
set_option linter.unusedSimpArgs false in
set_option maxHeartbeats 1000000 in
theorem Include_ok (base g : Nat) (ds : List (List UInt8)) (hmax : ds.length < 1048576) (i n : Nat) (w : World) (v mv : Value) (hn : n ≤ ds.length) (hi : i < n) (hT : Tr w base g ds v mv) :
    Calls Tryd.prog 30 #[.pointer (some ⟨g, 0, none⟩), .int .i64 i, .int .i64 n] w fun e w' => ∃ v', e = .returned (.tuple #[v', .int .i64 0]) ∧ Own w' w.heap.size 24 32 v' (pinc ds i 0 n).length (flat (pinc ds i 0 n)) ∧ PT w base g ds v mv w' := by
  have hinc := include_any base g ds hmax n 0 n n i w v mv (Nat.le_refl _) (by omega) (by omega) hn (Nat.zero_le _) hi hT
  obtain ⟨av, cv, rfl⟩ := hT.own.shape
  have c0 := hT.arr.cell 0
  simp only [List.getElem?_cons_zero] at c0
  have h1 : ¬ (n : Int) < 1 := by omega
  have h2 : ¬ (ds.length : Int) < (n : Int) := by omega
  have h3 : ¬ (i : Int) < 0 := by omega
  have h4 : ¬ (n : Int) ≤ (i : Int) := by omega
  have d1 : decide ((n : Int) < 1) = false := decide_eq_false h1
  have d2 : decide ((ds.length : Int) < (n : Int)) = false := decide_eq_false h2
  have d3 : decide ((i : Int) < 0) = false := decide_eq_false h3
  have d4 : decide ((n : Int) ≤ (i : Int)) = false := decide_eq_false h4
  have HT := Lib.hid hT
  clear hT
  generalize hp : pinc ds i 0 n = pp at *
  have HP := Lib.hid hp
  clear hp hmax hn hi
  generalize ds.length = m at *
  go_enter Tryd.func30, Tryd.ntmps30
  go_wp2_with fail
  refine hinc.mono ?_
  rintro e w2 ⟨v2, rfl, hO2, hP2⟩
  obtain ⟨a2, c2, rfl⟩ := hO2.shape
  go_wp2_with fail
  go_ret2
  exact ⟨_, rfl, hO2, hP2⟩
end Go.Proofs.YteehpfccegnjjaaDoor
