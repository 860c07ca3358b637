/-
  What LogtreeTrees calls: the reference's Path and extension, the law's same, the tree's Leaf, Root, Include and Extend for any numbers.
-/
import Derived.Test.YteehpfccegnjjaaDoorExtT
import Derived.Test.YteehpfccegnjjaaDoorGrow
namespace Go.Proofs.YteehpfccegnjjaaDoor
open Go Go.RowKit
namespace TreesA
theorem Digs.cut {w : World} {a : Option Addr} {cap k : Nat} {ds : List (List UInt8)} (h : Digs w (.slice a ds.length cap) ds) (hk : k ≤ ds.length) : k ≤ cap ∧ Digs w (.slice a k cap) (ds.take k) := by
  rcases h.lies with ⟨rfl, _⟩ | ⟨g, o, c, hv, hc, hg, _⟩
  · have : k = 0 := by simpa using hk
    subst this
    exact ⟨by omega, by simp, .inl ⟨rfl, _, _, rfl⟩⟩
  · simp only [Value.slice.injEq] at hv
    obtain ⟨rfl, -, rfl⟩ := hv
    exact ⟨by omega, h.take k hk⟩
theorem guardD : Tryd.prog.eqGuardType Tryd.prog.depth 24 = false := by kernel_rfl
theorem quiet_build0 {P : Program} {C : World → Prop} {o : Oper} {a : Act} {w : World} (T : TypeId) (ho : o.op = .build T #[]) (cells : Array Value) (h : P.built T [] = some cells) : o.quietAt P a C w (.agg cells) := by
  refine quiet_run ?_
  unfold execOp
  have h' : P.built T ((#[] : Array (Nat × Operand)).map fun (i, x) => (i, a.eval x)).toList = some cells := by simpa using h
  simp only [ho, Sem.run_bind, run_build w T _ _ h', Result.andThen_ok]
  rfl
theorem built24 : Tryd.prog.built 24 [] = some (List.replicate 32 (V8 0)).toArray := by kernel_rfl
end TreesA
open TreesA
theorem seg_cuts (ds : List (List UInt8)) (a b : Nat) (h : a + 2 ≤ b) : (seg ds a b).take (lp (b - a)) = seg ds a (a + lp (b - a)) ∧ (seg ds a b).drop (lp (b - a)) = seg ds (a + lp (b - a)) b := by
  have hl := lp_lt (b - a) (by omega)
  constructor
  · unfold seg
    rw [List.take_take, show a + lp (b - a) - a = lp (b - a) by omega]
    congr 1
    omega
  · unfold seg
    rw [List.drop_take, List.drop_drop, show b - a - lp (b - a) = b - (a + lp (b - a)) by omega]
theorem stabOwn (base : Nat) (e : TypeId) (sz n : Nat) (xs : List Value) (v : Value) : Stable (fun w => Own w base e sz v n xs) := fun _ _ h hb => h.below hb (Nat.le_refl _)
theorem run_bs1 {P : Program} {a : Act} {w : World} {o : Oper} (t e : TypeId) (x : Operand) (ho : o.op = .buildSlice t 1 #[(0, x)]) (ld : List Value) (hx : a.eval x = .agg ld.toArray) (hl : ld.length = 32) (hu : P.underlying t = some (.slice e)) (hI : I32 P e) :
    (execOp a.eval o).run P w = .ok (.value (.slice (some ⟨w.heap.size, 0, none⟩) 1 1)) (w.alloc (.cells ld.toArray e)) := by
  have := run_bs (P := P) (a := a) (w := w) t e 1 #[(0, x)] ho [.agg ld.toArray] (by simp [hx]) (by intro v hv; simp at hv; subst hv; simpa [Value.cells] using hl) rfl (by decide) (by decide) hu hI
  rwa [one_flat] at this
theorem news_fresh {wq : World} {g : Nat} {T : TypeId} {ld : List Value} (h : Fresh g (.cells ld.toArray T) wq) : ∀ j u, ld[j]? = some u → wq.cell? ((⟨g, 0, none⟩ : Addr).add j) = some u := fun j u hu => by
  have hA : Arr wq g T ld := h.2
  rw [Addr.add_lit, Nat.zero_add, hA.cell j, hu]
set_option maxRecDepth 100000 in
set_option linter.unusedSimpArgs false in
set_option maxHeartbeats 1000000 in
theorem pathR_any (ds : List (List UInt8)) (hall : ∀ d ∈ ds, d.length = 32) (hmax : ds.length < 1048576) (N : Nat) : ∀ (fr to idx : Nat) (v : Value) (w : World), to - fr ≤ N → fr ≤ idx → idx < to → to ≤ ds.length → Digs w v (seg ds fr to) →
    Calls Tryd.prog 37 #[v, .int .i64 ((idx - fr : Nat) : Int)] w fun e w' => ∃ v', e = .returned v' ∧ Own w' w.heap.size 23 32 v' (pinc ds idx fr to).length (flat (pinc ds idx fr to)) ∧ Below w.heap.size w w' := by
  induction N with
  | zero => intro fr to idx v w h1 h2 h3; omega
  | succ N ih =>
    intro fr to idx v w hN h0 h1 hle hV
    have hsl := seg_length ds fr to (by omega) hle
    obtain ⟨g, o, cap, rfl, hcap, hg, -⟩ := hV.pos (by omega)
    have hp := pinc.eq_1 ds idx fr to
    by_cases h2 : 2 ≤ to - fr
    · rw [if_pos h2] at hp
      have hlp1 := lp_pos (to - fr)
      have hlp2 := lp_lt (to - fr) h2
      have hl := leftR_any (to - fr) h2 (by omega)
      have hcs := seg_cuts ds fr to (by omega)
      have hTk := hV.take (lp (to - fr)) (by omega)
      have hDr := hV.drop (lp (to - fr)) (by omega)
      rw [hcs.1] at hTk
      rw [hcs.2, hsl] at hDr
      have hs1 := seg_length ds fr (fr + lp (to - fr)) (by omega) (by omega)
      have hs2 := seg_length ds (fr + lp (to - fr)) to (by omega) hle
      rw [hsl]
      have hplt := fun a b (h : a ≤ idx) (h1 : idx < b) (hb : b ≤ ds.length) => (pinc_from ds ds.length idx a b (by omega) h h1 hb).1
      have hpln := fun a b (h : a < b) => plong_lt (b - a) (idx - a) (b - a) (Nat.le_refl _) (by omega)
      have hpc : lp (to - fr) ≤ cap := by omega
      have hpn : lp (to - fr) ≤ to - fr := by omega
      have hne : ¬ cap = lp (to - fr) := by omega
      by_cases hc : idx < fr + lp (to - fr)
      · rw [if_pos hc] at hp
        have hpath := fun wq hV => ih fr (fr + lp (to - fr)) idx (.slice (some ⟨g, o, none⟩) (lp (to - fr)) cap) wq (by omega) h0 hc (by omega) hV
        have hrt := fun wq hV => rootR_any (to - fr) (seg ds (fr + lp (to - fr)) to) (.slice (some ⟨g, o + lp (to - fr) * 32, none⟩) (to - fr - lp (to - fr)) (cap - lp (to - fr))) wq (by omega) (by omega) (by omega) hV
        have hdl0 := seg_root_length ds hall (fr + lp (to - fr)) to (by omega) hle
        have hq1 := hplt fr (fr + lp (to - fr)) h0 hc (by omega)
        have hq2 := hpln fr (fr + lp (to - fr)) (by omega)
        have hci : idx - fr < lp (to - fr) := by omega
        have HPD := Lib.hid hTk; have HRD := Lib.hid hDr
        generalize mroot (seg ds (fr + lp (to - fr)) to) = d at *
        have hpm : (pinc ds idx fr (fr + lp (to - fr))).length ≤ 1048576 := by omega
        generalize pinc ds idx fr (fr + lp (to - fr)) = pp at *
        generalize hpl : pp.length = pl at *
        obtain ⟨ld, hD, hdm, hdl, hdo⟩ := v8_list d hdl0
        rw [hD] at hrt
        have HE := Lib.hid hp; have HPL := Lib.hid hpl; have HDM := Lib.hid hdm; have HDL := Lib.hid hdl; have HDO := Lib.hid hdo
        have HPM := Lib.hid (show pl ≤ 1048576 by omega)
        clear hdm hdl hdo hpl hdl0 hD hp hq1 hq2 hpm hplt hpln hcs hTk hDr hs1 hs2 ih hV hsl hlp1 hlp2 hcap hmax hN hle h0 h1 hc
        generalize seg ds fr (fr + lp (to - fr)) = s1 at *
        generalize seg ds (fr + lp (to - fr)) to = s2 at *
        generalize lp (to - fr) = k at *
        generalize idx - fr = i at *
        generalize hnn : to - fr = n at *
        clear hnn
        go_enter Tryd.func37, Tryd.ntmps37
        go_wp2_with (go_at_call 49; refine (hl _).mono ?_; rintro e w1 ⟨rfl, rfl⟩)
        refine wp_region_all [4, 9, 10] [0, 1, 2, 3, 5, 6, 7, 4, 8, 9, 10, 11] (Below w.heap.size w) (Stable.below w) (Below.refl _ _).drew (by kernel_rfl) (by kernel_rfl) ?_
        simp only [opsOf, List.getElem?_cons_succ, List.getElem?_cons_zero, List.drop_succ_cons, List.drop_zero]
        refine wpL_val ?v2 rfl (by rfl) (fun wq hq => ?y2) ?z2
        case y2 => go_simp; with_reducible rfl
        try simp only [Act.put, List.setIfInBounds_toArray, List.set_cons_zero, List.set_cons_succ]
        refine wpL_val ?v3 rfl (by rfl) (fun wq hq => ?y3) ?z3
        case y3 => go_simp; with_reducible rfl
        try simp only [Act.put, List.setIfInBounds_toArray, List.set_cons_zero, List.set_cons_succ]
        refine wpL_val ?v4 rfl (by rfl) (fun wq hq => ?y4) ?z4
        case y4 => go_simp; with_reducible rfl
        try simp only [Act.put, List.setIfInBounds_toArray, List.set_cons_zero, List.set_cons_succ]
        refine wpL_val ?v5 rfl (by rfl) (fun wq hq => ?y5) ?z5
        case y5 => go_simp; with_reducible rfl
        try simp only [Act.put, List.setIfInBounds_toArray, List.set_cons_zero, List.set_cons_succ]
        refine wpL_val ?v6 rfl (by rfl) (fun wq hq => ?y6) ?z6
        case y6 => go_simp; with_reducible rfl
        try simp only [Act.put, List.setIfInBounds_toArray, List.set_cons_zero, List.set_cons_succ]
        refine wpL_val ?v7 rfl (by rfl) (fun wq hq => ?y7) ?z7
        case y7 => go_simp; with_reducible rfl
        try simp only [Act.put, List.setIfInBounds_toArray, List.set_cons_zero, List.set_cons_succ]
        refine wpL_val ?v8 rfl (by rfl) (fun wq hq => ?y8) ?z8
        case y8 => go_simp; with_reducible rfl
        try simp only [Act.put, List.setIfInBounds_toArray, List.set_cons_zero, List.set_cons_succ]
        refine wpL_made (fun v => (∃ a c, v = .slice a pl c) ∧ ∀ k, v.ownBlock = some k → w.heap.size ≤ k) (fun v wq => Own wq w.heap.size 23 32 v pl (flat pp)) rfl (by rfl) (Stable.below w) (fun _ h => h) (stabOwn w.heap.size 23 32 pl (flat pp)) (fun wq hq => ?y9) ?_
        case y9 => unfold genAt; go_simp; refine (hpath _ (HPD.out.below hq (Nat.le_refl _))).mono ?_; rintro e wz ⟨vz, rfl, hO, hb⟩; have hO' := hO.mono hq.size; exact ⟨vz, rfl, ⟨hO'.shape, fun k hk => (hO'.lt k hk).1⟩, hO', hb⟩
        intro v1 hv1; obtain ⟨⟨a1, c1, rfl⟩, hown1⟩ := hv1
        try simp only [Act.put, List.setIfInBounds_toArray, List.set_cons_zero, List.set_cons_succ]
        refine wpL_val ?v10 rfl (by rfl) (fun wq hq => ?y10) ?z10
        case y10 => go_simp; exact hrt _ (HRD.out.below hq (Nat.le_refl _))
        try simp only [Act.put, List.setIfInBounds_toArray, List.set_cons_zero, List.set_cons_succ]
        refine wpL_new (fun g => .slice (some ⟨g, 0, none⟩) 1 1) (.cells ld.toArray 23) rfl (by rfl) (Stable.made (Stable.below w) (stabOwn w.heap.size 23 32 pl (flat pp) _)) (fun _ h => h.1) (fun wq hq => ?y11) (fun g1 hg1 => ?_)
        case y11 => exact run_bs1 _ _ _ rfl ld rfl HDL.out Tryd.underlying22 i32R
        try simp only [Act.put, List.setIfInBounds_toArray, List.set_cons_zero, List.set_cons_succ]
        refine wpL_app32 rfl (by rfl) (.tmp 19) (.tmp 24) 22 rfl w.heap.size 23 i32R Tryd.underlying22 _ _ _ rfl ⟨g1, 0, none⟩ 1 ld rfl HDL.out HDO.out HPM.out (Stable.below w) (fun wq wq' hq hg => hq.grown hg hq.size (fun k hk => hown1 k hk)) (fun wq hq => ⟨hq.1.1, hq.1.2, hq.1.1.size, news_fresh hq.2⟩) ?_; intro v3 w3 wq hq hA
        try simp only [Act.put, List.setIfInBounds_toArray, List.set_cons_zero, List.set_cons_succ]
        refine wpL_val ?v13 rfl (by rfl) (fun wq hq => ?y13) ?z13
        case y13 => go_simp; with_reducible rfl
        try simp only [Act.put, List.setIfInBounds_toArray, List.set_cons_zero, List.set_cons_succ]
        refine wpL_nil ?_
        intro wt hwt
        obtain ⟨a3, c3, rfl⟩ := hA.1.shape
        have hO3 := hA.1.below hwt (Nat.le_refl _)
        have hB3 : Below w.heap.size w wt := (hq.1.1.grown hA.2.1 hq.1.1.size (fun k hk => hown1 k hk)).trans (hwt.mono (Nat.le_trans hq.1.1.size hA.2.1.size))
        have HO3 := Lib.hid hO3
        clear hq hA hO3 hwt
        go_wp2_with fail
        go_ret
        refine ⟨_, rfl, ?_, hB3⟩
        rw [HE.out, List.length_append, HPL.out]
        have := HO3.out
        rw [HDM.out] at this
        simpa [flat] using this
      · rw [if_neg hc] at hp
        have hpath := fun wq hV => ih (fr + lp (to - fr)) to idx (.slice (some ⟨g, o + lp (to - fr) * 32, none⟩) (to - fr - lp (to - fr)) (cap - lp (to - fr))) wq (by omega) (by omega) h1 hle hV
        have hrt := fun wq hV => rootR_any (to - fr) (seg ds fr (fr + lp (to - fr))) (.slice (some ⟨g, o, none⟩) (lp (to - fr)) cap) wq (by omega) (by omega) (by omega) hV
        have hdl0 := seg_root_length ds hall fr (fr + lp (to - fr)) (by omega) (by omega)
        have hq1 := hplt (fr + lp (to - fr)) to (by omega) h1 hle
        have hq2 := hpln (fr + lp (to - fr)) to (by omega)
        have hci : ¬ idx - fr < lp (to - fr) := by omega
        have hsub : IntKind.i64.wrap (((idx - fr : Nat) : Int) - (lp (to - fr) : Int)) = ((idx - (fr + lp (to - fr)) : Nat) : Int) := by rw [show (((idx - fr : Nat) : Int) - (lp (to - fr) : Int)) = ((idx - (fr + lp (to - fr)) : Nat) : Int) by omega]; apply IntWalk.i64_in <;> omega
        have HPD := Lib.hid hDr; have HRD := Lib.hid hTk
        generalize mroot (seg ds fr (fr + lp (to - fr))) = d at *
        have hpm : (pinc ds idx (fr + lp (to - fr)) to).length ≤ 1048576 := by omega
        generalize pinc ds idx (fr + lp (to - fr)) to = pp at *
        generalize hpl : pp.length = pl at *
        obtain ⟨ld, hD, hdm, hdl, hdo⟩ := v8_list d hdl0
        rw [hD] at hrt
        have HE := Lib.hid hp; have HPL := Lib.hid hpl; have HDM := Lib.hid hdm; have HDL := Lib.hid hdl; have HDO := Lib.hid hdo
        have HPM := Lib.hid (show pl ≤ 1048576 by omega)
        clear hdm hdl hdo hpl hdl0 hD hp hq1 hq2 hpm hplt hpln hcs hTk hDr hs1 hs2 ih hV hsl hlp1 hlp2 hcap hmax hN hle h0 h1 hc
        generalize seg ds fr (fr + lp (to - fr)) = s1 at *
        generalize seg ds (fr + lp (to - fr)) to = s2 at *
        generalize idx - (fr + lp (to - fr)) = i2 at *
        generalize lp (to - fr) = k at *
        generalize idx - fr = i at *
        generalize hnn : to - fr = n at *
        clear hnn
        go_enter Tryd.func37, Tryd.ntmps37
        go_wp2_with (go_at_call 49; refine (hl _).mono ?_; rintro e w1 ⟨rfl, rfl⟩)
        refine wp_region_all [6, 11, 12] [0, 1, 2, 3, 4, 5, 7, 8, 9, 6, 10, 11, 12, 13] (Below w.heap.size w) (Stable.below w) (Below.refl _ _).drew (by kernel_rfl) (by kernel_rfl) ?_
        simp only [opsOf, List.getElem?_cons_succ, List.getElem?_cons_zero, List.drop_succ_cons, List.drop_zero]
        refine wpL_val ?v16 rfl (by rfl) (fun wq hq => ?y16) ?z16
        case y16 => go_simp; with_reducible rfl
        try simp only [Act.put, List.setIfInBounds_toArray, List.set_cons_zero, List.set_cons_succ]
        refine wpL_val ?v17 rfl (by rfl) (fun wq hq => ?y17) ?z17
        case y17 => go_simp; with_reducible rfl
        try simp only [Act.put, List.setIfInBounds_toArray, List.set_cons_zero, List.set_cons_succ]
        refine wpL_val ?v18 rfl (by rfl) (fun wq hq => ?y18) ?z18
        case y18 => go_simp; with_reducible rfl
        try simp only [Act.put, List.setIfInBounds_toArray, List.set_cons_zero, List.set_cons_succ]
        refine wpL_val ?v19 rfl (by rfl) (fun wq hq => ?y19) ?z19
        case y19 => go_simp; with_reducible rfl
        try simp only [Act.put, List.setIfInBounds_toArray, List.set_cons_zero, List.set_cons_succ]
        refine wpL_val ?v20 rfl (by rfl) (fun wq hq => ?y20) ?z20
        case y20 => go_simp; with_reducible rfl
        try simp only [Act.put, List.setIfInBounds_toArray, List.set_cons_zero, List.set_cons_succ]
        refine wpL_val ?v21 rfl (by rfl) (fun wq hq => ?y21) ?z21
        case y21 => go_simp; with_reducible rfl
        try simp only [Act.put, List.setIfInBounds_toArray, List.set_cons_zero, List.set_cons_succ]
        refine wpL_val ?v22 rfl (by rfl) (fun wq hq => ?y22) ?z22
        case y22 => go_simp; with_reducible rfl
        try simp only [Act.put, List.setIfInBounds_toArray, List.set_cons_zero, List.set_cons_succ]
        refine wpL_val ?v23 rfl (by rfl) (fun wq hq => ?y23) ?z23
        case y23 => go_simp; with_reducible rfl
        try simp only [Act.put, List.setIfInBounds_toArray, List.set_cons_zero, List.set_cons_succ]
        refine wpL_val ?v24 rfl (by rfl) (fun wq hq => ?y24) ?z24
        case y24 => go_simp; with_reducible rfl
        try simp only [Act.put, List.setIfInBounds_toArray, List.set_cons_zero, List.set_cons_succ]
        refine wpL_made (fun v => (∃ a c, v = .slice a pl c) ∧ ∀ k, v.ownBlock = some k → w.heap.size ≤ k) (fun v wq => Own wq w.heap.size 23 32 v pl (flat pp)) rfl (by rfl) (Stable.below w) (fun _ h => h) (stabOwn w.heap.size 23 32 pl (flat pp)) (fun wq hq => ?y25) ?_
        case y25 => unfold genAt; go_simp; refine (hpath _ (HPD.out.below hq (Nat.le_refl _))).mono ?_; rintro e wz ⟨vz, rfl, hO, hb⟩; have hO' := hO.mono hq.size; exact ⟨vz, rfl, ⟨hO'.shape, fun k hk => (hO'.lt k hk).1⟩, hO', hb⟩
        intro v1 hv1; obtain ⟨⟨a1, c1, rfl⟩, hown1⟩ := hv1
        try simp only [Act.put, List.setIfInBounds_toArray, List.set_cons_zero, List.set_cons_succ]
        refine wpL_val ?v26 rfl (by rfl) (fun wq hq => ?y26) ?z26
        case y26 => go_simp; exact hrt _ (HRD.out.below hq (Nat.le_refl _))
        try simp only [Act.put, List.setIfInBounds_toArray, List.set_cons_zero, List.set_cons_succ]
        refine wpL_new (fun g => .slice (some ⟨g, 0, none⟩) 1 1) (.cells ld.toArray 23) rfl (by rfl) (Stable.made (Stable.below w) (stabOwn w.heap.size 23 32 pl (flat pp) _)) (fun _ h => h.1) (fun wq hq => ?y27) (fun g1 hg1 => ?_)
        case y27 => exact run_bs1 _ _ _ rfl ld rfl HDL.out Tryd.underlying22 i32R
        try simp only [Act.put, List.setIfInBounds_toArray, List.set_cons_zero, List.set_cons_succ]
        refine wpL_app32 rfl (by rfl) (.tmp 32) (.tmp 37) 22 rfl w.heap.size 23 i32R Tryd.underlying22 _ _ _ rfl ⟨g1, 0, none⟩ 1 ld rfl HDL.out HDO.out HPM.out (Stable.below w) (fun wq wq' hq hg => hq.grown hg hq.size (fun k hk => hown1 k hk)) (fun wq hq => ⟨hq.1.1, hq.1.2, hq.1.1.size, news_fresh hq.2⟩) ?_; intro v3 w3 wq hq hA
        try simp only [Act.put, List.setIfInBounds_toArray, List.set_cons_zero, List.set_cons_succ]
        refine wpL_val ?v29 rfl (by rfl) (fun wq hq => ?y29) ?z29
        case y29 => go_simp; with_reducible rfl
        try simp only [Act.put, List.setIfInBounds_toArray, List.set_cons_zero, List.set_cons_succ]
        refine wpL_nil ?_
        intro wt hwt
        obtain ⟨a3, c3, rfl⟩ := hA.1.shape
        have hO3 := hA.1.below hwt (Nat.le_refl _)
        have hB3 : Below w.heap.size w wt := (hq.1.1.grown hA.2.1 hq.1.1.size (fun k hk => hown1 k hk)).trans (hwt.mono (Nat.le_trans hq.1.1.size hA.2.1.size))
        have HO3 := Lib.hid hO3
        clear hq hA hO3 hwt
        go_wp2_with fail
        go_ret
        refine ⟨_, rfl, ?_, hB3⟩
        rw [HE.out, List.length_append, HPL.out]
        have := HO3.out
        rw [HDM.out] at this
        simpa [flat] using this
    · rw [if_neg h2] at hp
      have h3 : (seg ds fr to).length = 1 := by omega
      rw [hp, h3]
      clear hp ih hV hsl hcap
      go_enter Tryd.func37, Tryd.ntmps37
      go_wp2_with fail
      go_ret
      exact ⟨_, rfl, Own.nil _ _ _ _, Below.refl _ _⟩
set_option maxRecDepth 100000 in
set_option linter.unusedSimpArgs false in
set_option maxHeartbeats 1000000 in
theorem extnR_any (ds : List (List UInt8)) (hall : ∀ d ∈ ds, d.length = 32) (hmax : ds.length < 1048576) (N : Nat) : ∀ (fr to m : Nat) (whole : Bool) (v : Value) (w : World), to - fr ≤ N → fr < m → m ≤ to → to ≤ ds.length → Digs w v (seg ds fr to) →
    Calls Tryd.prog 62 #[v, .int .i64 ((m - fr : Nat) : Int), .bool whole] w fun e w' => ∃ v', e = .returned v' ∧ Own w' w.heap.size 23 32 v' (pexn ds m fr to whole).length (flat (pexn ds m fr to whole)) ∧ Below w.heap.size w w' := by
  induction N with
  | zero => intro fr to m whole v w h1 h2 h3; omega
  | succ N ih =>
    intro fr to m whole v w hN h0 h1 hle hV
    have hsl := seg_length ds fr to (by omega) hle
    have hp := pexn.eq_1 ds m fr to whole
    by_cases hmt : m = to
    · subst hmt
      rw [if_pos rfl] at hp
      have hrt := fun wq hV => rootR_any (m - fr) (seg ds fr m) v wq (by omega) (by omega) (by omega) hV
      obtain ⟨g, o, cap, rfl, hcap, hg, -⟩ := hV.pos (by omega)
      rw [hsl] at hrt hV ⊢
      cases whole with
      | true =>
        have hp' : pexn ds m fr m true = [] := hp
        rw [hp']
        clear hp hp' ih hle hmax hN hsl hcap hrt hV
        generalize m - fr = n at *
        go_enter Tryd.func62, Tryd.ntmps62
        go_wp2_with fail
        go_ret
        exact ⟨_, rfl, Own.nil _ _ _ _, Below.refl _ _⟩
      | false =>
        have hp' : pexn ds m fr m false = [mroot (seg ds fr m)] := hp
        rw [hp']
        have hdl0 := seg_root_length ds hall fr m (by omega) hle
        generalize mroot (seg ds fr m) = d at *
        obtain ⟨ld, hD, hdm, hdl, hdo⟩ := v8_list d hdl0
        have HD := Lib.hid hD; have HV := Lib.hid hV
        have hsz : ∀ v ∈ ([.agg ld.toArray] : List Value), v.cells.size = 32 := by intro v hv; simp at hv; subst hv; simpa [Value.cells] using hdl
        have HDM := Lib.hid hdm; have HDL := Lib.hid hdl
        clear hp hp' ih hle hmax hN hD hdm hdl0 hdo hdl hsl hcap hV
        generalize seg ds fr m = s1 at *
        generalize m - fr = n at *
        go_enter Tryd.func62, Tryd.ntmps62
        go_wp2_with fail
        refine (hrt _ HV.out).mono ?_
        rintro e w2 ⟨rfl, hB2⟩
        rw [HD.out]
        have HB2 := Lib.hid hB2
        clear hB2 hrt
        go_wp2_with ((with_reducible refine at_bs _ _ #[(0, .tmp 14)] ?_); go_must (refine wpList_bs rfl 22 23 1 _ rfl [.agg ld.toArray] rfl hsz rfl (by decide) (by decide) Tryd.underlying22 i32R ?_); rw [one_flat])
        go_ret
        refine ⟨_, rfl, ?_, HB2.out.trans ((below_alloc _ _).mono HB2.out.size)⟩
        have hA := Arr.new w2 23 ld
        have hs := HB2.out.size
        have hl := HDL.out
        refine ⟨by simp [flat, ← HDM.out, hl], .inr ⟨w2.heap.size, 1, ld.toArray, (0, 0), rfl, hs, hA, by simp [hl], Nat.le_refl _, by unfold maxLen; omega, .inl (Nat.le_refl _), ?_⟩⟩
        simp [flat, ← HDM.out]
        exact List.take_of_length_le (by omega)
    · have h2 : 2 ≤ to - fr := by omega
      obtain ⟨g, o, cap, rfl, hcap, hg, -⟩ := hV.pos (by omega)
      rw [if_neg hmt, if_pos h2] at hp
      have hlp1 := lp_pos (to - fr)
      have hlp2 := lp_lt (to - fr) h2
      have hl := leftR_any (to - fr) h2 (by omega)
      have hcs := seg_cuts ds fr to (by omega)
      have hTk := hV.take (lp (to - fr)) (by omega)
      have hDr := hV.drop (lp (to - fr)) (by omega)
      rw [hcs.1] at hTk
      rw [hcs.2, hsl] at hDr
      have hs1 := seg_length ds fr (fr + lp (to - fr)) (by omega) (by omega)
      have hs2 := seg_length ds (fr + lp (to - fr)) to (by omega) hle
      rw [hsl]
      have hplen := fun m a b wh (h : a < m) (h1 : m ≤ b) => pexn_len ds (b - a) m a b wh (Nat.le_refl _) h h1
      have hplt := fun m n wh => pexl_le n m n wh (Nat.le_refl _)
      have hpc : lp (to - fr) ≤ cap := by omega
      have hpn : lp (to - fr) ≤ to - fr := by omega
      have hne : ¬ cap = lp (to - fr) := by omega
      have hmn : ¬ ((m - fr : Nat) : Int) = ((to - fr : Nat) : Int) := by omega
      by_cases hc : m ≤ fr + lp (to - fr)
      · rw [if_pos hc] at hp
        have hpath := fun wq hV => ih fr (fr + lp (to - fr)) m whole (.slice (some ⟨g, o, none⟩) (lp (to - fr)) cap) wq (by omega) h0 hc (by omega) hV
        have hrt := fun wq hV => rootR_any (to - fr) (seg ds (fr + lp (to - fr)) to) (.slice (some ⟨g, o + lp (to - fr) * 32, none⟩) (to - fr - lp (to - fr)) (cap - lp (to - fr))) wq (by omega) (by omega) (by omega) hV
        have hdl0 := seg_root_length ds hall (fr + lp (to - fr)) to (by omega) hle
        have hq1 := hplen m fr (fr + lp (to - fr)) whole h0 hc
        have hq2 := hplt (m - fr) (fr + lp (to - fr) - fr) whole
        have hci : ((m - fr : Nat) : Int) ≤ (lp (to - fr) : Int) := by omega
        have HPD := Lib.hid hTk; have HRD := Lib.hid hDr
        generalize mroot (seg ds (fr + lp (to - fr)) to) = d at *
        have hpm : (pexn ds m fr (fr + lp (to - fr)) whole).length ≤ 1048576 := by omega
        generalize pexn ds m fr (fr + lp (to - fr)) whole = pp at *
        generalize hpl : pp.length = pl at *
        obtain ⟨ld, hD, hdm, hdl, hdo⟩ := v8_list d hdl0
        rw [hD] at hrt
        have HE := Lib.hid hp; have HPL := Lib.hid hpl; have HDM := Lib.hid hdm; have HDL := Lib.hid hdl; have HDO := Lib.hid hdo
        have HPM := Lib.hid (show pl ≤ 1048576 by omega)
        clear hdm hdl hdo hpl hdl0 hD hp hq1 hq2 hpm hplt hplen hcs hTk hDr hs1 hs2 ih hV hsl hlp1 hlp2 hcap hmax hN hle h0 h1 hc hmt
        generalize seg ds fr (fr + lp (to - fr)) = s1 at *
        generalize seg ds (fr + lp (to - fr)) to = s2 at *
        generalize lp (to - fr) = k at *
        generalize m - fr = i at *
        generalize hnn : to - fr = n at *
        clear hnn
        go_enter Tryd.func62, Tryd.ntmps62
        go_wp2_with (go_at_call 49; refine (hl _).mono ?_; rintro e w1 ⟨rfl, rfl⟩)
        refine wp_region_all [5, 10, 11] [0, 1, 2, 3, 4, 6, 7, 8, 5, 9, 10, 11, 12] (Below w.heap.size w) (Stable.below w) (Below.refl _ _).drew (by kernel_rfl) (by kernel_rfl) ?_
        simp only [opsOf, List.getElem?_cons_succ, List.getElem?_cons_zero, List.drop_succ_cons, List.drop_zero]
        refine wpL_val ?v32 rfl (by rfl) (fun wq hq => ?y32) ?z32
        case y32 => go_simp; with_reducible rfl
        try simp only [Act.put, List.setIfInBounds_toArray, List.set_cons_zero, List.set_cons_succ]
        refine wpL_val ?v33 rfl (by rfl) (fun wq hq => ?y33) ?z33
        case y33 => go_simp; with_reducible rfl
        try simp only [Act.put, List.setIfInBounds_toArray, List.set_cons_zero, List.set_cons_succ]
        refine wpL_val ?v34 rfl (by rfl) (fun wq hq => ?y34) ?z34
        case y34 => go_simp; with_reducible rfl
        try simp only [Act.put, List.setIfInBounds_toArray, List.set_cons_zero, List.set_cons_succ]
        refine wpL_val ?v35 rfl (by rfl) (fun wq hq => ?y35) ?z35
        case y35 => go_simp; with_reducible rfl
        try simp only [Act.put, List.setIfInBounds_toArray, List.set_cons_zero, List.set_cons_succ]
        refine wpL_val ?v36 rfl (by rfl) (fun wq hq => ?y36) ?z36
        case y36 => go_simp; with_reducible rfl
        try simp only [Act.put, List.setIfInBounds_toArray, List.set_cons_zero, List.set_cons_succ]
        refine wpL_val ?v37 rfl (by rfl) (fun wq hq => ?y37) ?z37
        case y37 => go_simp; with_reducible rfl
        try simp only [Act.put, List.setIfInBounds_toArray, List.set_cons_zero, List.set_cons_succ]
        refine wpL_val ?v38 rfl (by rfl) (fun wq hq => ?y38) ?z38
        case y38 => go_simp; with_reducible rfl
        try simp only [Act.put, List.setIfInBounds_toArray, List.set_cons_zero, List.set_cons_succ]
        refine wpL_val ?v39 rfl (by rfl) (fun wq hq => ?y39) ?z39
        case y39 => go_simp; with_reducible rfl
        try simp only [Act.put, List.setIfInBounds_toArray, List.set_cons_zero, List.set_cons_succ]
        refine wpL_made (fun v => (∃ a c, v = .slice a pl c) ∧ ∀ k, v.ownBlock = some k → w.heap.size ≤ k) (fun v wq => Own wq w.heap.size 23 32 v pl (flat pp)) rfl (by rfl) (Stable.below w) (fun _ h => h) (stabOwn w.heap.size 23 32 pl (flat pp)) (fun wq hq => ?y40) ?_
        case y40 => unfold genAt; go_simp; refine (hpath _ (HPD.out.below hq (Nat.le_refl _))).mono ?_; rintro e wz ⟨vz, rfl, hO, hb⟩; have hO' := hO.mono hq.size; exact ⟨vz, rfl, ⟨hO'.shape, fun k hk => (hO'.lt k hk).1⟩, hO', hb⟩
        intro v1 hv1; obtain ⟨⟨a1, c1, rfl⟩, hown1⟩ := hv1
        try simp only [Act.put, List.setIfInBounds_toArray, List.set_cons_zero, List.set_cons_succ]
        refine wpL_val ?v41 rfl (by rfl) (fun wq hq => ?y41) ?z41
        case y41 => go_simp; exact hrt _ (HRD.out.below hq (Nat.le_refl _))
        try simp only [Act.put, List.setIfInBounds_toArray, List.set_cons_zero, List.set_cons_succ]
        refine wpL_new (fun g => .slice (some ⟨g, 0, none⟩) 1 1) (.cells ld.toArray 23) rfl (by rfl) (Stable.made (Stable.below w) (stabOwn w.heap.size 23 32 pl (flat pp) _)) (fun _ h => h.1) (fun wq hq => ?y42) (fun g1 hg1 => ?_)
        case y42 => exact run_bs1 _ _ _ rfl ld rfl HDL.out Tryd.underlying22 i32R
        try simp only [Act.put, List.setIfInBounds_toArray, List.set_cons_zero, List.set_cons_succ]
        refine wpL_app32 rfl (by rfl) (.tmp 27) (.tmp 32) 22 rfl w.heap.size 23 i32R Tryd.underlying22 _ _ _ rfl ⟨g1, 0, none⟩ 1 ld rfl HDL.out HDO.out HPM.out (Stable.below w) (fun wq wq' hq hg => hq.grown hg hq.size (fun k hk => hown1 k hk)) (fun wq hq => ⟨hq.1.1, hq.1.2, hq.1.1.size, news_fresh hq.2⟩) ?_; intro v3 w3 wq hq hA
        try simp only [Act.put, List.setIfInBounds_toArray, List.set_cons_zero, List.set_cons_succ]
        refine wpL_val ?v44 rfl (by rfl) (fun wq hq => ?y44) ?z44
        case y44 => go_simp; with_reducible rfl
        try simp only [Act.put, List.setIfInBounds_toArray, List.set_cons_zero, List.set_cons_succ]
        refine wpL_nil ?_
        intro wt hwt
        obtain ⟨a3, c3, rfl⟩ := hA.1.shape
        have hO3 := hA.1.below hwt (Nat.le_refl _)
        have hB3 : Below w.heap.size w wt := (hq.1.1.grown hA.2.1 hq.1.1.size (fun k hk => hown1 k hk)).trans (hwt.mono (Nat.le_trans hq.1.1.size hA.2.1.size))
        have HO3 := Lib.hid hO3
        clear hq hA hO3 hwt
        go_wp2_with fail
        go_ret
        refine ⟨_, rfl, ?_, hB3⟩
        rw [HE.out, List.length_append, HPL.out]
        have := HO3.out
        rw [HDM.out] at this
        simpa [flat] using this
      · rw [if_neg hc] at hp
        have hpath := fun wq hV => ih (fr + lp (to - fr)) to m false (.slice (some ⟨g, o + lp (to - fr) * 32, none⟩) (to - fr - lp (to - fr)) (cap - lp (to - fr))) wq (by omega) (by omega) h1 hle hV
        have hrt := fun wq hV => rootR_any (to - fr) (seg ds fr (fr + lp (to - fr))) (.slice (some ⟨g, o, none⟩) (lp (to - fr)) cap) wq (by omega) (by omega) (by omega) hV
        have hdl0 := seg_root_length ds hall fr (fr + lp (to - fr)) (by omega) (by omega)
        have hq1 := hplen m (fr + lp (to - fr)) to false (by omega) h1
        have hq2 := hplt (m - (fr + lp (to - fr))) (to - (fr + lp (to - fr))) false
        have hci : ¬ ((m - fr : Nat) : Int) ≤ (lp (to - fr) : Int) := by omega
        have hsub : IntKind.i64.wrap (((m - fr : Nat) : Int) - (lp (to - fr) : Int)) = ((m - (fr + lp (to - fr)) : Nat) : Int) := by rw [show (((m - fr : Nat) : Int) - (lp (to - fr) : Int)) = ((m - (fr + lp (to - fr)) : Nat) : Int) by omega]; apply IntWalk.i64_in <;> omega
        have HPD := Lib.hid hDr; have HRD := Lib.hid hTk
        generalize mroot (seg ds fr (fr + lp (to - fr))) = d at *
        have hpm : (pexn ds m (fr + lp (to - fr)) to false).length ≤ 1048576 := by omega
        generalize pexn ds m (fr + lp (to - fr)) to false = pp at *
        generalize hpl : pp.length = pl at *
        obtain ⟨ld, hD, hdm, hdl, hdo⟩ := v8_list d hdl0
        rw [hD] at hrt
        have HE := Lib.hid hp; have HPL := Lib.hid hpl; have HDM := Lib.hid hdm; have HDL := Lib.hid hdl; have HDO := Lib.hid hdo
        have HPM := Lib.hid (show pl ≤ 1048576 by omega)
        clear hdm hdl hdo hpl hdl0 hD hp hq1 hq2 hpm hplt hplen hcs hTk hDr hs1 hs2 ih hV hsl hlp1 hlp2 hcap hmax hN hle h0 h1 hc hmt
        generalize seg ds fr (fr + lp (to - fr)) = s1 at *
        generalize seg ds (fr + lp (to - fr)) to = s2 at *
        generalize m - (fr + lp (to - fr)) = i2 at *
        generalize lp (to - fr) = k at *
        generalize m - fr = i at *
        generalize hnn : to - fr = n at *
        clear hnn
        go_enter Tryd.func62, Tryd.ntmps62
        go_wp2_with (go_at_call 49; refine (hl _).mono ?_; rintro e w1 ⟨rfl, rfl⟩)
        refine wp_region_all [6, 11, 12] [0, 1, 2, 3, 4, 5, 7, 8, 9, 6, 10, 11, 12, 13] (Below w.heap.size w) (Stable.below w) (Below.refl _ _).drew (by kernel_rfl) (by kernel_rfl) ?_
        simp only [opsOf, List.getElem?_cons_succ, List.getElem?_cons_zero, List.drop_succ_cons, List.drop_zero]
        refine wpL_val ?v47 rfl (by rfl) (fun wq hq => ?y47) ?z47
        case y47 => go_simp; with_reducible rfl
        try simp only [Act.put, List.setIfInBounds_toArray, List.set_cons_zero, List.set_cons_succ]
        refine wpL_val ?v48 rfl (by rfl) (fun wq hq => ?y48) ?z48
        case y48 => go_simp; with_reducible rfl
        try simp only [Act.put, List.setIfInBounds_toArray, List.set_cons_zero, List.set_cons_succ]
        refine wpL_val ?v49 rfl (by rfl) (fun wq hq => ?y49) ?z49
        case y49 => go_simp; with_reducible rfl
        try simp only [Act.put, List.setIfInBounds_toArray, List.set_cons_zero, List.set_cons_succ]
        refine wpL_val ?v50 rfl (by rfl) (fun wq hq => ?y50) ?z50
        case y50 => go_simp; with_reducible rfl
        try simp only [Act.put, List.setIfInBounds_toArray, List.set_cons_zero, List.set_cons_succ]
        refine wpL_val ?v51 rfl (by rfl) (fun wq hq => ?y51) ?z51
        case y51 => go_simp; with_reducible rfl
        try simp only [Act.put, List.setIfInBounds_toArray, List.set_cons_zero, List.set_cons_succ]
        refine wpL_val ?v52 rfl (by rfl) (fun wq hq => ?y52) ?z52
        case y52 => go_simp; with_reducible rfl
        try simp only [Act.put, List.setIfInBounds_toArray, List.set_cons_zero, List.set_cons_succ]
        refine wpL_val ?v53 rfl (by rfl) (fun wq hq => ?y53) ?z53
        case y53 => go_simp; with_reducible rfl
        try simp only [Act.put, List.setIfInBounds_toArray, List.set_cons_zero, List.set_cons_succ]
        refine wpL_val ?v54 rfl (by rfl) (fun wq hq => ?y54) ?z54
        case y54 => go_simp; with_reducible rfl
        try simp only [Act.put, List.setIfInBounds_toArray, List.set_cons_zero, List.set_cons_succ]
        refine wpL_val ?v55 rfl (by rfl) (fun wq hq => ?y55) ?z55
        case y55 => go_simp; with_reducible rfl
        try simp only [Act.put, List.setIfInBounds_toArray, List.set_cons_zero, List.set_cons_succ]
        refine wpL_made (fun v => (∃ a c, v = .slice a pl c) ∧ ∀ k, v.ownBlock = some k → w.heap.size ≤ k) (fun v wq => Own wq w.heap.size 23 32 v pl (flat pp)) rfl (by rfl) (Stable.below w) (fun _ h => h) (stabOwn w.heap.size 23 32 pl (flat pp)) (fun wq hq => ?y56) ?_
        case y56 => unfold genAt; go_simp; refine (hpath _ (HPD.out.below hq (Nat.le_refl _))).mono ?_; rintro e wz ⟨vz, rfl, hO, hb⟩; have hO' := hO.mono hq.size; exact ⟨vz, rfl, ⟨hO'.shape, fun k hk => (hO'.lt k hk).1⟩, hO', hb⟩
        intro v1 hv1; obtain ⟨⟨a1, c1, rfl⟩, hown1⟩ := hv1
        try simp only [Act.put, List.setIfInBounds_toArray, List.set_cons_zero, List.set_cons_succ]
        refine wpL_val ?v57 rfl (by rfl) (fun wq hq => ?y57) ?z57
        case y57 => go_simp; exact hrt _ (HRD.out.below hq (Nat.le_refl _))
        try simp only [Act.put, List.setIfInBounds_toArray, List.set_cons_zero, List.set_cons_succ]
        refine wpL_new (fun g => .slice (some ⟨g, 0, none⟩) 1 1) (.cells ld.toArray 23) rfl (by rfl) (Stable.made (Stable.below w) (stabOwn w.heap.size 23 32 pl (flat pp) _)) (fun _ h => h.1) (fun wq hq => ?y58) (fun g1 hg1 => ?_)
        case y58 => exact run_bs1 _ _ _ rfl ld rfl HDL.out Tryd.underlying22 i32R
        try simp only [Act.put, List.setIfInBounds_toArray, List.set_cons_zero, List.set_cons_succ]
        refine wpL_app32 rfl (by rfl) (.tmp 40) (.tmp 45) 22 rfl w.heap.size 23 i32R Tryd.underlying22 _ _ _ rfl ⟨g1, 0, none⟩ 1 ld rfl HDL.out HDO.out HPM.out (Stable.below w) (fun wq wq' hq hg => hq.grown hg hq.size (fun k hk => hown1 k hk)) (fun wq hq => ⟨hq.1.1, hq.1.2, hq.1.1.size, news_fresh hq.2⟩) ?_; intro v3 w3 wq hq hA
        try simp only [Act.put, List.setIfInBounds_toArray, List.set_cons_zero, List.set_cons_succ]
        refine wpL_val ?v60 rfl (by rfl) (fun wq hq => ?y60) ?z60
        case y60 => go_simp; with_reducible rfl
        try simp only [Act.put, List.setIfInBounds_toArray, List.set_cons_zero, List.set_cons_succ]
        refine wpL_nil ?_
        intro wt hwt
        obtain ⟨a3, c3, rfl⟩ := hA.1.shape
        have hO3 := hA.1.below hwt (Nat.le_refl _)
        have hB3 : Below w.heap.size w wt := (hq.1.1.grown hA.2.1 hq.1.1.size (fun k hk => hown1 k hk)).trans (hwt.mono (Nat.le_trans hq.1.1.size hA.2.1.size))
        have HO3 := Lib.hid hO3
        clear hq hA hO3 hwt
        go_wp2_with fail
        go_ret
        refine ⟨_, rfl, ?_, hB3⟩
        rw [HE.out, List.length_append, HPL.out]
        have := HO3.out
        rw [HDM.out] at this
        simpa [flat] using this
/-- The reference's Extension of the first n leaves at m. -/
theorem ExtnR_any (ds : List (List UInt8)) (hall : ∀ d ∈ ds, d.length = 32) (hmax : ds.length < 1048576) (m n : Nat) (v : Value) (w : World) (hm : m ≤ n) (hn : n ≤ ds.length) (hV : Digs w v (ds.take n)) :
    Calls Tryd.prog 36 #[v, .int .i64 (m : Int)] w fun e w' => ∃ v', e = .returned v' ∧ Digs w' v' (pexS ds m n) ∧ Below w.heap.size w w' := by
  obtain ⟨a, c, rfl⟩ := hV.shape
  by_cases h0 : m = 0
  · subst h0
    have hp : pexS ds 0 n = [] := by unfold pexS; rw [if_pos rfl]
    rw [hp]
    clear hp hmax hm hn hV
    generalize (ds.take n).length = l at *
    go_enter Tryd.func36, Tryd.ntmps36
    go_wp2_with fail
    go_ret
    exact ⟨_, rfl, ⟨by simp, .inl ⟨rfl, _, _, rfl⟩⟩, Below.refl _ _⟩
  · have hp : pexS ds m n = pexn ds m 0 n true := by unfold pexS; rw [if_neg h0]
    have hext := extnR_any ds hall hmax n 0 n m true (.slice a (ds.take n).length c) w (by omega) (by omega) hm hn (by rw [show seg ds 0 n = ds.take n by unfold seg; simp]; exact hV)
    have hal := pexn_all ds hall n m 0 n true (by omega) (by omega) hn
    rw [Nat.sub_zero] at hext
    rw [hp]
    have hm0 : ¬ (m : Int) = 0 := by omega
    generalize pexn ds m 0 n true = pp at *
    clear hp hmax hm hn hV
    generalize (ds.take n).length = l at *
    go_enter Tryd.func36, Tryd.ntmps36
    go_wp2_with fail
    refine hext.mono ?_
    rintro e w2 ⟨v2, rfl, hO2, hB2⟩
    obtain ⟨a2, c2, rfl⟩ := hO2.shape
    go_wp2_with fail
    go_ret
    exact ⟨_, rfl, hO2.digs hal, hB2⟩
/-- The reference's Path of the first n leaves at i. -/
theorem PathR_any (ds : List (List UInt8)) (hall : ∀ d ∈ ds, d.length = 32) (hmax : ds.length < 1048576) (i n : Nat) (v : Value) (w : World) (hi : i < n) (hn : n ≤ ds.length) (hV : Digs w v (ds.take n)) :
    Calls Tryd.prog 37 #[v, .int .i64 (i : Int)] w fun e w' => ∃ v', e = .returned v' ∧ Digs w' v' (pinc ds i 0 n) ∧ Below w.heap.size w w' := by
  have h := pathR_any ds hall hmax n 0 n i v w (by omega) (by omega) hi hn (by rw [show seg ds 0 n = ds.take n by unfold seg; simp]; exact hV)
  rw [Nat.sub_zero] at h
  refine h.mono ?_
  rintro e w' ⟨v', rfl, hO, hB⟩
  exact ⟨v', rfl, hO.digs (pinc_all ds hall n i 0 n (by omega) (by omega) hn), hB⟩
set_option maxRecDepth 100000 in
set_option linter.unusedSimpArgs false in
set_option maxHeartbeats 1000000 in
theorem same_any (ds : List (List UInt8)) (v1 v2 : Value) (w : World) (hmax : ds.length ≤ 1048576) (h1 : Digs w v1 ds) (h2 : Digs w v2 ds) :
    Calls Tryd.prog 35 #[v1, v2] w fun e w' => e = .returned (.bool true) ∧ Below w.heap.size w w' := by
  obtain ⟨a1, c1, rfl⟩ := h1.shape
  obtain ⟨a2, c2, rfl⟩ := h2.shape
  have huR := Lib.hid Tryd.underlying23
  go_enter Tryd.func35, Tryd.ntmps35
  go_wp2_with fail
  go_loopw [5] (fun i wr => ∃ k : Nat, k ≤ ds.length ∧ i = .int .i64 k ∧ Below w.heap.size w wr) (fun i _ => ds.length - (intOf i).toNat)
  case atStart => exact ⟨0, by omega, rfl, Below.refl _ _⟩
  case round =>
    obtain ⟨k, hk, rfl, hB⟩ := hrel
    by_cases hlt : k < ds.length
    · obtain ⟨g, o, cap, hv, hcap, hg, hr⟩ := h1.pos (by omega)
      simp only [Value.slice.injEq] at hv
      obtain ⟨rfl, -, rfl⟩ := hv
      obtain ⟨gb, ob, capb, hvb, hcapb, hgb, hrb⟩ := h2.pos (by omega)
      simp only [Value.slice.injEq] at hvb
      obtain ⟨rfl, -, rfl⟩ := hvb
      have hra := range_below (hr k hlt) hB hg
      have hrc := range_below (hrb k hlt) hB hgb
      have hd := getD_mem_32 ds h1.all k hlt
      generalize ds.getD k [] = d at *
      obtain ⟨ld, hD, hdm, hdl, hdo⟩ := v8_list d hd
      rw [← hdm] at hra hrc
      have HRA := Lib.hid hra; have HRC := Lib.hid hrc
      have HLD := Lib.hid (show (Tryd.prog.info? 23).map (·.size) = some ld.length by rw [hdl]; exact infR32)
      have HD := Lib.hid hD
      have hgA := Nat.lt_of_lt_of_le hg hB.size
      have hgB := Nat.lt_of_lt_of_le hgb hB.size
      have HB := Lib.hid hB
      clear hr hrb hra hrc hD hdm hdl hdo h1 h2 hcap hcapb hB hg hgb
      go_upto_region 6 with (fail)
      refine wp_region_all [] [0, 1, 2, 3, 4, 5, 6, 7, 8] (Below wr.heap.size wr) (Stable.below wr) (Below.refl _ _).drew (by kernel_rfl) (by kernel_rfl) ?_
      simp only [opsOf, List.getElem?_cons_succ, List.getElem?_cons_zero, List.drop_succ_cons, List.drop_zero]
      refine wpL_val ?v63 rfl (by rfl) (fun wq hq => ?y63) ?z63
      case y63 => go_simp; with_reducible rfl
      try simp only [Act.put, List.setIfInBounds_toArray, List.set_cons_zero, List.set_cons_succ]
      refine wpL_val ?v64 rfl (by rfl) (fun wq hq => ?y64) ?z64
      case y64 => go_simp; with_reducible rfl
      try simp only [Act.put, List.setIfInBounds_toArray, List.set_cons_zero, List.set_cons_succ]
      refine wpL_val ?v65 rfl (by rfl) (fun wq hq => ?y65) ?z65
      case y65 => go_simp; with_reducible rfl
      try simp only [Act.put, List.setIfInBounds_toArray, List.set_cons_zero, List.set_cons_succ]
      refine wpL_val (.agg ld.toArray) rfl (by rfl) (fun wq hq => quiet_ld 23 _ rfl _ _ rfl ld _ (range_below HRA.out hq hgA) huR.out rfl HLD.out) ?_
      try simp only [Act.put, List.setIfInBounds_toArray, List.set_cons_zero, List.set_cons_succ]
      refine wpL_val ?v67 rfl (by rfl) (fun wq hq => ?y67) ?z67
      case y67 => go_simp; with_reducible rfl
      try simp only [Act.put, List.setIfInBounds_toArray, List.set_cons_zero, List.set_cons_succ]
      refine wpL_val ?v68 rfl (by rfl) (fun wq hq => ?y68) ?z68
      case y68 => go_simp; with_reducible rfl
      try simp only [Act.put, List.setIfInBounds_toArray, List.set_cons_zero, List.set_cons_succ]
      refine wpL_val ?v69 rfl (by rfl) (fun wq hq => ?y69) ?z69
      case y69 => go_simp; with_reducible rfl
      try simp only [Act.put, List.setIfInBounds_toArray, List.set_cons_zero, List.set_cons_succ]
      refine wpL_val (.agg ld.toArray) rfl (by rfl) (fun wq hq => quiet_ld 23 _ rfl _ _ rfl ld _ (range_below HRC.out hq hgB) huR.out rfl HLD.out) ?_
      try simp only [Act.put, List.setIfInBounds_toArray, List.set_cons_zero, List.set_cons_succ]
      refine wpL_val (.bool (!true)) rfl (by rfl) (fun wq hq => quiet_neq 23 _ _ _ rfl _ _ rfl rfl guardR true ((eqlR d d hd hd _ _ HD.out HD.out wq).trans (by rw [decide_eq_true rfl]))) ?_
      try simp only [Act.put, List.setIfInBounds_toArray, List.set_cons_zero, List.set_cons_succ]
      refine wpL_nil ?_
      intro wz hwz
      have HB2 := HB.out.trans (hwz.mono HB.out.size)
      go_wp2_with fail
      go_roundw
      case rel => exact ⟨k + 1, by omega, by go_num, HB2⟩
      case measure => simp [intOf]; omega
    · obtain rfl : k = ds.length := by omega
      go_wp2_with fail
      go_ret
      exact ⟨rfl, hB⟩
set_option maxRecDepth 100000 in
set_option linter.unusedSimpArgs false in
set_option maxHeartbeats 1000000 in
theorem leafT_bad (base g : Nat) (ds : List (List UInt8)) (a : Int) (w : World) (v mv : Value) (ha : a < 0 ∨ (ds.length : Int) ≤ a) (hT : Tr w base g ds v mv) :
    Calls Tryd.prog 33 #[.pointer (some ⟨g, 0, none⟩), .int .i64 a] w fun e w' => e = .returned (.tuple #[Dv zd, .int .i64 2]) ∧ Below w.heap.size w w' := by
  have hA := Arr.new w 24 (List.replicate 32 (V8 0))
  have hB : Below w.heap.size w (w.alloc (Z32 24)) := below_alloc _ _
  obtain ⟨av, cv, rfl⟩ := hT.own.shape
  have c0 := (hB.cell (p := ⟨g, 0, none⟩) hT.arr.lt).trans (hT.arr.cell 0)
  simp only [List.getElem?_cons_zero] at c0
  have hu := Lib.hid Tryd.underlying24
  have HAA := Lib.hid hA; have HB := Lib.hid hB; have HT := Lib.hid hT; have HC0 := Lib.hid c0
  clear hA hB hT c0
  generalize ds.length = m at *
  by_cases h1 : a < 0
  · have d1 : decide (a < 0) = true := decide_eq_true h1
    clear ha
    go_enter Tryd.func33, Tryd.ntmps33
    go_upto_region 3 with (fail)
    have c0 := HC0.out
    clear HC0
    change Code.wp _ _ _ _ (w.alloc (Z32 24))
    generalize w.alloc (Z32 24) = w0 at *
    go_wp2_with ((with_reducible refine at_st 24 (.tmp 4) (.tmp 20) ?_); refine wpList_store_row rfl 24 (.tmp 4) (.tmp 20) rfl w.heap.size (List.replicate 32 (V8 0)).toArray rfl rfl 24 (List.replicate 32 (V8 0)).toArray HAA.out infZ rfl oneZ ?_)
    exact bodyPost_ret (v := .tuple #[Dv zd, .int .i64 2]) (results_row_tmp rfl _ _ w.heap.size 24 _ _ _ _ rfl rfl (setRow_heap _ _ _ _ _ _ HAA.out) hu.out rfl infZ) rfl ⟨rfl, below_setRow HB.out (Nat.le_refl _) _⟩
  · have d1 : decide (a < 0) = false := decide_eq_false h1
    have h2 : (m : Int) ≤ a := by omega
    have d2 : decide ((m : Int) ≤ a) = true := decide_eq_true h2
    clear ha
    go_enter Tryd.func33, Tryd.ntmps33
    go_upto_region 3 with (fail)
    have c0 := HC0.out
    clear HC0
    change Code.wp _ _ _ _ (w.alloc (Z32 24))
    generalize w.alloc (Z32 24) = w0 at *
    go_wp2_with ((with_reducible refine at_st 24 (.tmp 4) (.tmp 20) ?_); refine wpList_store_row rfl 24 (.tmp 4) (.tmp 20) rfl w.heap.size (List.replicate 32 (V8 0)).toArray rfl rfl 24 (List.replicate 32 (V8 0)).toArray HAA.out infZ rfl oneZ ?_)
    exact bodyPost_ret (v := .tuple #[Dv zd, .int .i64 2]) (results_row_tmp rfl _ _ w.heap.size 24 _ _ _ _ rfl rfl (setRow_heap _ _ _ _ _ _ HAA.out) hu.out rfl infZ) rfl ⟨rfl, below_setRow HB.out (Nat.le_refl _) _⟩
set_option maxRecDepth 100000 in
set_option linter.unusedSimpArgs false in
set_option maxHeartbeats 1000000 in
theorem rootT_bad (base g : Nat) (ds : List (List UInt8)) (a : Int) (w : World) (v mv : Value) (ha : a < 0 ∨ (ds.length : Int) < a) (hT : Tr w base g ds v mv) :
    Calls Tryd.prog 34 #[.pointer (some ⟨g, 0, none⟩), .int .i64 a] w fun e w' => e = .returned (.tuple #[Dv zd, .int .i64 2]) ∧ Below w.heap.size w w' := by
  have hA := Arr.new w 24 (List.replicate 32 (V8 0))
  have hB : Below w.heap.size w (w.alloc (Z32 24)) := below_alloc _ _
  obtain ⟨av, cv, rfl⟩ := hT.own.shape
  have c0 := (hB.cell (p := ⟨g, 0, none⟩) hT.arr.lt).trans (hT.arr.cell 0)
  simp only [List.getElem?_cons_zero] at c0
  have hu := Lib.hid Tryd.underlying24
  have HAA := Lib.hid hA; have HB := Lib.hid hB; have HT := Lib.hid hT; have HC0 := Lib.hid c0
  clear hA hB hT c0
  generalize ds.length = m at *
  by_cases h1 : a < 0
  · have d1 : decide (a < 0) = true := decide_eq_true h1
    clear ha
    go_enter Tryd.func34, Tryd.ntmps34
    go_upto_region 3 with (fail)
    have c0 := HC0.out
    clear HC0
    change Code.wp _ _ _ _ (w.alloc (Z32 24))
    generalize w.alloc (Z32 24) = w0 at *
    go_wp2_with ((with_reducible refine at_st 24 (.tmp 4) (.tmp 20) ?_); refine wpList_store_row rfl 24 (.tmp 4) (.tmp 20) rfl w.heap.size (List.replicate 32 (V8 0)).toArray rfl rfl 24 (List.replicate 32 (V8 0)).toArray HAA.out infZ rfl oneZ ?_)
    exact bodyPost_ret (v := .tuple #[Dv zd, .int .i64 2]) (results_row_tmp rfl _ _ w.heap.size 24 _ _ _ _ rfl rfl (setRow_heap _ _ _ _ _ _ HAA.out) hu.out rfl infZ) rfl ⟨rfl, below_setRow HB.out (Nat.le_refl _) _⟩
  · have d1 : decide (a < 0) = false := decide_eq_false h1
    have h2 : (m : Int) < a := by omega
    have d2 : decide ((m : Int) < a) = true := decide_eq_true h2
    clear ha
    go_enter Tryd.func34, Tryd.ntmps34
    go_upto_region 3 with (fail)
    have c0 := HC0.out
    clear HC0
    change Code.wp _ _ _ _ (w.alloc (Z32 24))
    generalize w.alloc (Z32 24) = w0 at *
    go_wp2_with ((with_reducible refine at_st 24 (.tmp 4) (.tmp 20) ?_); refine wpList_store_row rfl 24 (.tmp 4) (.tmp 20) rfl w.heap.size (List.replicate 32 (V8 0)).toArray rfl rfl 24 (List.replicate 32 (V8 0)).toArray HAA.out infZ rfl oneZ ?_)
    exact bodyPost_ret (v := .tuple #[Dv zd, .int .i64 2]) (results_row_tmp rfl _ _ w.heap.size 24 _ _ _ _ rfl rfl (setRow_heap _ _ _ _ _ _ HAA.out) hu.out rfl infZ) rfl ⟨rfl, below_setRow HB.out (Nat.le_refl _) _⟩
set_option maxRecDepth 100000 in
set_option linter.unusedSimpArgs false in
set_option maxHeartbeats 1000000 in
theorem leafT_ok (base g : Nat) (ds : List (List UInt8)) (a : Nat) (w : World) (v mv : Value) (ha : a < ds.length) (hT : Tr w base g ds v mv) :
    Calls Tryd.prog 33 #[.pointer (some ⟨g, 0, none⟩), .int .i64 a] w fun e w' => e = .returned (.tuple #[Dv (ds.getD a []), .int .i64 0]) ∧ Below w.heap.size w w' := by
  have hd := getD_mem_32 ds hT.all a ha
  have hTO := hT.own; have hTA := hT.arr
  obtain ⟨av, cv, rfl⟩ := hTO.shape
  obtain ⟨gl, rfl, -, hgl, hrl⟩ := hTO.dig rfl hT.all ha
  clear hTO hTA
  have hrl := range_below hrl (below_alloc w (Z32 24)) hgl
  generalize ds.getD a [] = d at *
  obtain ⟨ld, hD, hDm, hdl, hdo⟩ := v8_list d hd
  rw [← hDm] at hrl
  rw [hD]
  have HR := Lib.hid hrl
  have HI := Lib.hid (inf_size infD32 ld hdl); have HS := Lib.hid (st_size ld hdl); have HO := Lib.hid (all_oneCell_toArray hdo)
  have HL := Lib.hid (show (Tryd.prog.info? 24).map (·.size) = some ld.length by rw [hdl]; exact infD32)
  clear hrl hD hDm hdl hdo
  have hA := Arr.new w 24 (List.replicate 32 (V8 0))
  have hB : Below w.heap.size w (w.alloc (Z32 24)) := below_alloc _ _
  have c0 := (hB.cell (p := ⟨g, 0, none⟩) hT.arr.lt).trans (hT.arr.cell 0)
  simp only [List.getElem?_cons_zero] at c0
  have hu := Lib.hid Tryd.underlying24
  have HAA := Lib.hid hA; have HB := Lib.hid hB; have HC0 := Lib.hid c0
  clear hA hB hT c0 hd
  have h1 : ¬ (a : Int) < 0 := by omega
  have h2 : ¬ (ds.length : Int) ≤ (a : Int) := by omega
  have d1 : decide ((a : Int) < 0) = false := decide_eq_false h1
  have d2 : decide ((ds.length : Int) ≤ (a : Int)) = false := decide_eq_false h2
  generalize ds.length = m at *
  go_enter Tryd.func33, Tryd.ntmps33
  go_upto_region 3 with (fail)
  have c0 := HC0.out
  clear HC0
  change Code.wp _ _ _ _ (w.alloc (Z32 24))
  generalize w.alloc (Z32 24) = w0 at *
  go_wp2_with (first | ((with_reducible refine at_ld 24 (.tmp 26) ?_); refine wpList_load_mid rfl 24 (.tmp 26) rfl gl (a * 32) rfl ld _ HR.out hu.out rfl HL.out ?_) | ((with_reducible refine at_st 24 (.tmp 4) (.tmp 27) ?_); refine wpList_store_row rfl 24 (.tmp 4) (.tmp 27) rfl w.heap.size ld.toArray rfl rfl 24 (List.replicate 32 (V8 0)).toArray HAA.out HI.out HS.out HO.out ?_))
  exact bodyPost_ret (v := .tuple #[.agg ld.toArray, .int .i64 0]) (results_row_tmp rfl _ _ w.heap.size 24 _ _ _ _ rfl rfl (setRow_heap _ _ _ _ _ _ HAA.out) hu.out rfl HI.out) rfl ⟨rfl, below_setRow HB.out (Nat.le_refl _) _⟩
set_option maxRecDepth 100000 in
set_option linter.unusedSimpArgs false in
set_option maxHeartbeats 1000000 in
theorem rootT_ok (base g : Nat) (ds : List (List UInt8)) (hmax : ds.length < 1048576) (b : Nat) (w : World) (v mv : Value) (hb : b ≤ ds.length) (hT : Tr w base g ds v mv) :
    Calls Tryd.prog 34 #[.pointer (some ⟨g, 0, none⟩), .int .i64 b] w fun e w' => e = .returned (.tuple #[Dv (mtree (ds.take b)), .int .i64 0]) ∧ PT w base g ds v mv w' := by
  have hTK := hT
  have hdl0 := mtree_length (ds.take b) (fun d hd => hT.all d (List.mem_of_mem_take hd))
  have hpart := fun (h : 1 ≤ b) w mv hT => part_any base g ds hmax b 0 b b w v mv (Nat.le_refl _) h (by omega) hb hT
  have hpm : 1 ≤ b → mroot (seg ds 0 b) = mtree (ds.take b) := fun h => by
    unfold mtree seg
    rw [if_neg (fun e => by have := congrArg List.length e; simp only [List.length_take, List.length_nil] at this; omega)]
    simp
  have hpe : b = 0 → mtree (ds.take b) = Sha.empty := fun h => by subst h; rfl
  generalize mtree (ds.take b) = d at *
  have hA := Arr.new w 24 (List.replicate 32 (V8 0))
  have hB : Below w.heap.size w (w.alloc (Z32 24)) := below_alloc _ _
  obtain ⟨av, cv, rfl⟩ := hT.own.shape
  have c0 := (hB.cell (p := ⟨g, 0, none⟩) hT.arr.lt).trans (hT.arr.cell 0)
  simp only [List.getElem?_cons_zero] at c0
  have hu := Lib.hid Tryd.underlying24
  have HAA := Lib.hid hA; have HB := Lib.hid hB; have HT := Lib.hid hT; have HC0 := Lib.hid c0
  clear hA hB hT c0
  have h1 : ¬ (b : Int) < 0 := by omega
  have h2 : ¬ (ds.length : Int) < (b : Int) := by omega
  have d1 : decide ((b : Int) < 0) = false := decide_eq_false h1
  have d2 : decide ((ds.length : Int) < (b : Int)) = false := decide_eq_false h2
  have HTA := Lib.hid (HT.out.below HB.out)
  have HPB := Lib.hid (PT.below HT.out HB.out)
  obtain ⟨ld, hD, -, hdl, hdo⟩ := v8_list d hdl0
  have HI := Lib.hid (inf_size infD32 ld hdl); have HS := Lib.hid (st_size ld hdl); have HO := Lib.hid (all_oneCell_toArray hdo)
  have HD := Lib.hid hD
  rw [hD]
  clear hD hdl hdo hdl0 hTK
  generalize ds.length = m at *
  have hsz0 : w.heap.size < (w.alloc (Z32 24)).heap.size := HAA.out.lt
  by_cases hb0 : b = 0
  · have he := hpe hb0
    subst hb0
    clear hpm hpe hpart
    go_enter Tryd.func34, Tryd.ntmps34
    go_upto_region 3 with (fail)
    have c0 := HC0.out
    clear HC0
    change Code.wp _ _ _ _ (w.alloc (Z32 24))
    generalize w.alloc (Z32 24) = w0 at *
    go_upto_region 6 with (fail)
    go_wp2_with fail
    refine (empty_any _ HTA.out.kt).mono ?_
    rintro e w2 ⟨rfl, hB2⟩
    rw [← he, HD.out]
    have HA2 := Lib.hid (HAA.out.below hB2 hsz0)
    have HP2 := Lib.hid (HPB.out.andBelow hB2)
    clear hB2
    go_wp2_with ((with_reducible refine at_st 24 (.tmp 4) (.tmp 23) ?_); refine wpList_store_row rfl 24 (.tmp 4) (.tmp 23) rfl w.heap.size ld.toArray rfl rfl 24 (List.replicate 32 (V8 0)).toArray HA2.out HI.out HS.out HO.out ?_)
    exact bodyPost_ret (v := .tuple #[.agg ld.toArray, .int .i64 0]) (results_row_tmp rfl _ _ w.heap.size 24 _ _ _ _ rfl rfl (setRow_heap _ _ _ _ _ _ HA2.out) hu.out rfl HI.out) rfl ⟨rfl, HP2.out.setOwn HT.out (Nat.le_refl _) _ HA2.out⟩
  · have hpc := hpart (by omega)
    rw [hpm (by omega)] at hpc
    have hb0i : ¬ (b : Int) = 0 := by omega
    clear hpm hpe hpart
    go_enter Tryd.func34, Tryd.ntmps34
    go_upto_region 3 with (fail)
    have c0 := HC0.out
    clear HC0
    change Code.wp _ _ _ _ (w.alloc (Z32 24))
    generalize w.alloc (Z32 24) = w0 at *
    go_upto_region 7 with (fail)
    go_wp2_with fail
    refine (hpc _ _ HTA.out).mono ?_
    rintro e w2 ⟨rfl, hP2⟩
    rw [HD.out]
    have HA2 := Lib.hid (hP2.arr HTA.out HAA.out (by have := HT.out.lt; omega))
    have HP2 := Lib.hid (HPB.out.trans1 HTA.out hP2)
    clear hP2
    go_wp2_with ((with_reducible refine at_st 24 (.tmp 4) (.tmp 26) ?_); refine wpList_store_row rfl 24 (.tmp 4) (.tmp 26) rfl w.heap.size ld.toArray rfl rfl 24 (List.replicate 32 (V8 0)).toArray HA2.out HI.out HS.out HO.out ?_)
    exact bodyPost_ret (v := .tuple #[.agg ld.toArray, .int .i64 0]) (results_row_tmp rfl _ _ w.heap.size 24 _ _ _ _ rfl rfl (setRow_heap _ _ _ _ _ _ HA2.out) hu.out rfl HI.out) rfl ⟨rfl, HP2.out.setOwn HT.out (Nat.le_refl _) _ HA2.out⟩
set_option maxRecDepth 100000 in
set_option linter.unusedSimpArgs false in
set_option maxHeartbeats 1000000 in
theorem Include_bad (base g : Nat) (ds : List (List UInt8)) (i n : Int) (w : World) (v mv : Value) (hbad : n < 1 ∨ (ds.length : Int) < n ∨ i < 0 ∨ n ≤ i) (hT : Tr w base g ds v mv) :
    Calls Tryd.prog 30 #[.pointer (some ⟨g, 0, none⟩), .int .i64 i, .int .i64 n] w fun e w' => e = .returned (.tuple #[.slice none 0 0, .int .i64 2]) ∧ w' = w := by
  obtain ⟨av, cv, rfl⟩ := hT.own.shape
  have c0 := hT.arr.cell 0
  simp only [List.getElem?_cons_zero] at c0
  clear hT
  generalize ds.length = m at *
  by_cases b0 : n < 1
  · have d0 : decide (n < 1) = true := decide_eq_true b0
    clear hbad
    go_enter Tryd.func30, Tryd.ntmps30
    go_wp2_with fail
    go_ret2
    exact ⟨rfl, rfl⟩
  · have d0 : decide (n < 1) = false := decide_eq_false b0
    by_cases b1 : (m : Int) < n
    · have d1 : decide ((m : Int) < n) = true := decide_eq_true b1
      clear hbad
      go_enter Tryd.func30, Tryd.ntmps30
      go_wp2_with fail
      go_ret2
      exact ⟨rfl, rfl⟩
    · have d1 : decide ((m : Int) < n) = false := decide_eq_false b1
      by_cases b2 : i < 0
      · have d2 : decide (i < 0) = true := decide_eq_true b2
        clear hbad
        go_enter Tryd.func30, Tryd.ntmps30
        go_wp2_with fail
        go_ret2
        exact ⟨rfl, rfl⟩
      · have d2 : decide (i < 0) = false := decide_eq_false b2
        have b3 : n ≤ i := by omega
        have d3 : decide (n ≤ i) = true := decide_eq_true b3
        clear hbad
        go_enter Tryd.func30, Tryd.ntmps30
        go_wp2_with fail
        go_ret2
        exact ⟨rfl, rfl⟩
set_option maxRecDepth 100000 in
set_option linter.unusedSimpArgs false in
set_option maxHeartbeats 1000000 in
theorem Extend_bad (base g : Nat) (ds : List (List UInt8)) (i n : Int) (w : World) (v mv : Value) (hbad : n < 0 ∨ (ds.length : Int) < n ∨ i < 0 ∨ n < i) (hT : Tr w base g ds v mv) :
    Calls Tryd.prog 31 #[.pointer (some ⟨g, 0, none⟩), .int .i64 i, .int .i64 n] w fun e w' => e = .returned (.tuple #[.slice none 0 0, .int .i64 2]) ∧ w' = w := by
  obtain ⟨av, cv, rfl⟩ := hT.own.shape
  have c0 := hT.arr.cell 0
  simp only [List.getElem?_cons_zero] at c0
  clear hT
  generalize ds.length = m at *
  by_cases b0 : n < 0
  · have d0 : decide (n < 0) = true := decide_eq_true b0
    clear hbad
    go_enter Tryd.func31, Tryd.ntmps31
    go_wp2_with fail
    go_ret2
    exact ⟨rfl, rfl⟩
  · have d0 : decide (n < 0) = false := decide_eq_false b0
    by_cases b1 : (m : Int) < n
    · have d1 : decide ((m : Int) < n) = true := decide_eq_true b1
      clear hbad
      go_enter Tryd.func31, Tryd.ntmps31
      go_wp2_with fail
      go_ret2
      exact ⟨rfl, rfl⟩
    · have d1 : decide ((m : Int) < n) = false := decide_eq_false b1
      by_cases b2 : i < 0
      · have d2 : decide (i < 0) = true := decide_eq_true b2
        clear hbad
        go_enter Tryd.func31, Tryd.ntmps31
        go_wp2_with fail
        go_ret2
        exact ⟨rfl, rfl⟩
      · have d2 : decide (i < 0) = false := decide_eq_false b2
        have b3 : n < i := by omega
        have d3 : decide (n < i) = true := decide_eq_true b3
        clear hbad
        go_enter Tryd.func31, Tryd.ntmps31
        go_wp2_with fail
        go_ret2
        exact ⟨rfl, rfl⟩
theorem leaf_spec (base g : Nat) (ds : List (List UInt8)) (hall : ∀ d ∈ ds, d.length = 32) (a : Int) : ∃ (d : List UInt8) (c : Int), d.length = 32 ∧ ((0 ≤ a ∧ a < ds.length) → d = ds.getD a.toNat [] ∧ c = 0) ∧ (¬ (0 ≤ a ∧ a < ds.length) → d = zd ∧ c = 2) ∧
    ∀ w v mv, Tr w base g ds v mv → Calls Tryd.prog 33 #[.pointer (some ⟨g, 0, none⟩), .int .i64 a] w fun e w' => e = .returned (.tuple #[Dv d, .int .i64 c]) ∧ Below w.heap.size w w' := by
  by_cases h : 0 ≤ a ∧ a < ds.length
  · obtain ⟨n, rfl⟩ := Int.eq_ofNat_of_zero_le h.1
    exact ⟨ds.getD n [], 0, getD_mem_32 ds hall n (by omega), fun _ => ⟨by rw [Int.toNat_natCast], rfl⟩, fun k => absurd h k, fun w v mv hT => leafT_ok base g ds n w v mv (by omega) hT⟩
  · exact ⟨zd, 2, zd_len, fun k => absurd k h, fun _ => ⟨rfl, rfl⟩, fun w v mv hT => leafT_bad base g ds a w v mv (by omega) hT⟩
theorem root_spec (base g : Nat) (ds : List (List UInt8)) (hall : ∀ d ∈ ds, d.length = 32) (hmax : ds.length < 1048576) (b : Int) : ∃ (d : List UInt8) (c : Int), d.length = 32 ∧ ((0 ≤ b ∧ b ≤ ds.length) → d = mtree (ds.take b.toNat) ∧ c = 0) ∧ (¬ (0 ≤ b ∧ b ≤ ds.length) → d = zd ∧ c = 2) ∧
    ∀ w v mv, Tr w base g ds v mv → Calls Tryd.prog 34 #[.pointer (some ⟨g, 0, none⟩), .int .i64 b] w fun e w' => e = .returned (.tuple #[Dv d, .int .i64 c]) ∧ PT w base g ds v mv w' := by
  by_cases h : 0 ≤ b ∧ b ≤ ds.length
  · obtain ⟨n, rfl⟩ := Int.eq_ofNat_of_zero_le h.1
    exact ⟨mtree (ds.take n), 0, mtree_length _ (fun d hd => hall d (List.mem_of_mem_take hd)), fun _ => ⟨by rw [Int.toNat_natCast], rfl⟩, fun k => absurd h k, fun w v mv hT => rootT_ok base g ds hmax n w v mv (by omega) hT⟩
  · exact ⟨zd, 2, zd_len, fun k => absurd k h, fun _ => ⟨rfl, rfl⟩, fun w v mv hT => (rootT_bad base g ds b w v mv (by omega) hT).mono fun _ _ hh => ⟨hh.1, PT.below hT hh.2⟩⟩
theorem include_spec (base g : Nat) (ds : List (List UInt8)) (hall : ∀ d ∈ ds, d.length = 32) (hmax : ds.length < 1048576) (a b : Int) : ∃ (p : List (List UInt8)) (c : Int), (∀ d ∈ p, d.length = 32) ∧ p.length ≤ ds.length + 1 ∧ ((0 ≤ a ∧ a < b ∧ b ≤ ds.length) → p = pinc ds a.toNat 0 b.toNat ∧ c = 0) ∧ (¬ (0 ≤ a ∧ a < b ∧ b ≤ ds.length) → p = [] ∧ c = 2) ∧
    ∀ w v mv, Tr w base g ds v mv → Calls Tryd.prog 30 #[.pointer (some ⟨g, 0, none⟩), .int .i64 a, .int .i64 b] w fun e w' => ∃ v', e = .returned (.tuple #[v', .int .i64 c]) ∧ Own w' w.heap.size 24 32 v' p.length (flat p) ∧ PT w base g ds v mv w' := by
  by_cases h : 0 ≤ a ∧ a < b ∧ b ≤ ds.length
  · obtain ⟨n, rfl⟩ := Int.eq_ofNat_of_zero_le h.1
    obtain ⟨m, rfl⟩ := Int.eq_ofNat_of_zero_le (show 0 ≤ b by omega)
    have h1 := (pinc_from ds ds.length n 0 m (by omega) (by omega) (by omega) (by omega)).1
    have h2 := plong_lt (m - 0) (n - 0) (m - 0) (Nat.le_refl _) (by omega)
    exact ⟨pinc ds n 0 m, 0, pinc_all ds hall m n 0 m (by omega) (by omega) (by omega), by omega, fun _ => ⟨by simp, rfl⟩, fun k => absurd h k, fun w v mv hT => Include_ok base g ds hmax n m w v mv (by omega) (by omega) hT⟩
  · refine ⟨[], 2, by simp, by simp, fun k => absurd k h, fun _ => ⟨rfl, rfl⟩, fun w v mv hT => (Include_bad base g ds a b w v mv (by omega) hT).mono fun _ w' hh => ?_⟩
    obtain ⟨rfl, rfl⟩ := hh
    exact ⟨_, rfl, Own.nil _ _ _ _, PT.below hT (Below.refl _ _)⟩
theorem extend_spec (base g : Nat) (ds : List (List UInt8)) (hall : ∀ d ∈ ds, d.length = 32) (hmax : ds.length < 1048576) (a b : Int) : ∃ (p : List (List UInt8)) (c : Int), (∀ d ∈ p, d.length = 32) ∧ p.length ≤ ds.length + 1 ∧ ((0 ≤ a ∧ a ≤ b ∧ b ≤ ds.length) → p = pexS ds a.toNat b.toNat ∧ c = 0) ∧ (¬ (0 ≤ a ∧ a ≤ b ∧ b ≤ ds.length) → p = [] ∧ c = 2) ∧
    ∀ w v mv, Tr w base g ds v mv → Calls Tryd.prog 31 #[.pointer (some ⟨g, 0, none⟩), .int .i64 a, .int .i64 b] w fun e w' => ∃ v', e = .returned (.tuple #[v', .int .i64 c]) ∧ Own w' w.heap.size 24 32 v' p.length (flat p) ∧ PT w base g ds v mv w' := by
  by_cases h : 0 ≤ a ∧ a ≤ b ∧ b ≤ ds.length
  · obtain ⟨m, rfl⟩ := Int.eq_ofNat_of_zero_le h.1
    obtain ⟨n, rfl⟩ := Int.eq_ofNat_of_zero_le (show 0 ≤ b by omega)
    refine ⟨pexS ds m n, 0, ?_, ?_, fun _ => ⟨by simp, rfl⟩, fun k => absurd h k, fun w v mv hT => Extend_ok base g ds hmax m n w v mv (by omega) (by omega) hT⟩
    · unfold pexS
      split
      · simp
      · exact pexn_all ds hall n m 0 n true (by omega) (by omega) (by omega)
    · unfold pexS
      split
      · simp
      · have h1 := pexn_len ds n m 0 n true (by omega) (by omega) (by omega)
        have h2 := pexl_le (n - 0) (m - 0) (n - 0) true (Nat.le_refl _)
        omega
  · refine ⟨[], 2, by simp, by simp, fun k => absurd k h, fun _ => ⟨rfl, rfl⟩, fun w v mv hT => (Extend_bad base g ds a b w v mv (by omega) hT).mono fun _ w' hh => ?_⟩
    obtain ⟨rfl, rfl⟩ := hh
    exact ⟨_, rfl, Own.nil _ _ _ _, PT.below hT (Below.refl _ _)⟩
end Go.Proofs.YteehpfccegnjjaaDoor
