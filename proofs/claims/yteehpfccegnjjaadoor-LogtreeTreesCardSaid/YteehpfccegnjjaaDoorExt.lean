/-
  Extension paths: their length and what they lead to; the contract of logtree.extends.
-/
import Derived.Test.YteehpfccegnjjaaDoorFromA
namespace Go.Proofs.YteehpfccegnjjaaDoor
open Go Go.RowKit
def pexl (m n : Nat) (whole : Bool) : Nat :=
  if m = n then (if whole then 0 else 1) else if 2 ≤ n then 1 + (if m ≤ lp n then pexl m (lp n) whole else pexl (m - lp n) (n - lp n) false) else 0
termination_by n
decreasing_by
  · exact lp_lt n ‹_›
  · have := lp_pos n; omega
def pext (old : List UInt8) (m n : Nat) (whole : Bool) (path : List (List UInt8)) : List UInt8 × List UInt8 × Bool :=
  if m = n then
    if whole then (old, old, decide (path.length = 0))
    else if path.length = 1 then (path.getD 0 [], path.getD 0 [], true) else (zd, zd, false)
  else if 2 ≤ n then
    if path.length = 0 then (zd, zd, false)
    else if m ≤ lp n then
      let r := pext old m (lp n) whole (path.take (path.length - 1))
      (r.1, Sha.node r.2.1 (path.getD (path.length - 1) []), r.2.2)
    else
      let r := pext old (m - lp n) (n - lp n) false (path.take (path.length - 1))
      (Sha.node (path.getD (path.length - 1) []) r.1, Sha.node (path.getD (path.length - 1) []) r.2.1, r.2.2)
  else (zd, zd, false)
termination_by n
decreasing_by
  · exact lp_lt n ‹_›
  · have := lp_pos n; omega
theorem pext_length (N : Nat) : ∀ (old : List UInt8) (m n : Nat) (whole : Bool) (path : List (List UInt8)), n ≤ N → old.length = 32 → (∀ d ∈ path, d.length = 32) →
    (pext old m n whole path).1.length = 32 ∧ (pext old m n whole path).2.1.length = 32 := by
  induction N with
  | zero =>
    intro old m n whole path h ho hp
    rw [pext]
    split
    · split
      · exact ⟨ho, ho⟩
      · split
        · rename_i h1
          have : (path.getD 0 []).length = 32 := by match path, h1 with | [d], _ => exact hp d (by simp)
          exact ⟨this, this⟩
        · exact ⟨rfl, rfl⟩
    · rw [if_neg (by omega)]; exact ⟨rfl, rfl⟩
  | succ N ih =>
    intro old m n whole path h ho hp
    rw [pext]
    split
    · split
      · exact ⟨ho, ho⟩
      · split
        · rename_i h1
          have : (path.getD 0 []).length = 32 := by match path, h1 with | [d], _ => exact hp d (by simp)
          exact ⟨this, this⟩
        · exact ⟨rfl, rfl⟩
    · split
      · rename_i h2
        have hp1 := lp_pos n
        have hp2 := lp_lt n h2
        split
        · exact ⟨rfl, rfl⟩
        · split
          · exact ⟨(ih old m (lp n) whole _ (by omega) ho fun d hd => hp d (List.mem_of_mem_take hd)).1, Sha.node_length _ _⟩
          · exact ⟨Sha.node_length _ _, Sha.node_length _ _⟩
      · exact ⟨rfl, rfl⟩
theorem pext_ok (N : Nat) : ∀ (old : List UInt8) (m n : Nat) (whole : Bool) (path : List (List UInt8)), n ≤ N → 1 ≤ m → m ≤ n → (pext old m n whole path).2.2 = decide (path.length = pexl m n whole) := by
  induction N with
  | zero => intro old m n whole path h h1 h2; omega
  | succ N ih =>
    intro old m n whole path h h1 h2
    rw [pext, pexl]
    by_cases he : m = n
    · simp only [if_pos he]
      cases whole
      · simp only [Bool.false_eq_true, if_false]
        split <;> simp [*]
      · simp
    · have h3 : 2 ≤ n := by omega
      have hp1 := lp_pos n
      have hp2 := lp_lt n h3
      have htl : (path.take (path.length - 1)).length = path.length - 1 := by rw [List.length_take]; omega
      simp only [if_neg he, if_pos h3]
      by_cases h0 : path.length = 0
      · simp only [if_pos h0]
        symm
        apply decide_eq_false
        omega
      · simp only [if_neg h0]
        by_cases hc : m ≤ lp n
        · simp only [if_pos hc]
          rw [ih old m (lp n) whole _ (by omega) h1 hc, htl]
          congr 1
          apply propext
          omega
        · simp only [if_neg hc]
          rw [ih old (m - lp n) (n - lp n) false _ (by omega) (by omega) (by omega), htl]
          congr 1
          apply propext
          omega
theorem results_rrt0 {P : Program} {fn : Func} {p q u : Tmp} {ty ty2 : TypeId} (h : fn.results = #[.cell p ty, .cell q ty2, .tmp u]) (tmps : Array Value) (w : World) :
    (results fn tmps).run P w = ((asAddr (tmps.getD p undef)).run P w).andThen fun a w₁ => ((loadVar ty a).run P w₁).andThen fun x w₂ => ((asAddr (tmps.getD q undef)).run P w₂).andThen fun b w₃ => ((loadVar ty2 b).run P w₃).andThen fun y w₄ => .ok (.tuple #[x, y, tmps.getD u undef]) w₄ := by
  simp only [results, h]
  simp [Sem.run_bind, Result.andThen]
theorem results_rrt {P : Program} {fn : Func} {p q u : Tmp} {ty : TypeId} (h : fn.results = #[.cell p ty, .cell q ty, .tmp u]) (tmps : Array Value) (w : World) (g g2 : Nat) (t : TypeId) (cs cs2 : Array Value) (fr fr2 : Nat × Nat) (d : TypeDesc) (z : Value)
    (hp : tmps.getD p undef = .pointer (some ⟨g, 0, none⟩)) (hq : tmps.getD q undef = .pointer (some ⟨g2, 0, none⟩)) (hz : tmps.getD u undef = z) (hg : w.heap[g]? = some (.cells cs t fr)) (hg2 : w.heap[g2]? = some (.cells cs2 t fr2))
    (hu : P.underlying ty = some d) (hd : (match d with | .struct _ | .array _ _ => true | _ => false) = true) (hi : (P.info? ty).map (·.size) = some cs.size) (hi2 : (P.info? ty).map (·.size) = some cs2.size) :
    (results fn tmps).run P w = .ok (.tuple #[.agg cs, .agg cs2, z]) w := by
  rw [results_rrt0 h, hp, hq, hz]
  simp [asAddr, run_loadVar_row w g t ty cs fr d hg hu hd hi, run_loadVar_row w g2 t ty cs2 fr2 d hg2 hu hd hi2]
theorem arr_mid {T : TypeId} {w0 wq : World} {A : Nat} {x z : List Value} (f2 : Arr w0 (A + 1 + 1) T z) (h : ∃ w, Below w0.heap.size w0 w ∧ Below (w.setRow (A + 1) x.toArray).heap.size (w.setRow (A + 1) x.toArray) wq) : Arr wq (A + 1 + 1) T z := by
  obtain ⟨w, h1, h2⟩ := h
  exact ((f2.below h1 f2.lt).setRow_other (A + 1) x.toArray (by omega)).below h2 (by have := (f2.below h1 f2.lt).lt; simpa [World.setRow] using this)
theorem below_mid {w0 wq : World} {A : Nat} {x : List Value} {cs : Array Value} (hs : A + 1 ≤ w0.heap.size) (h : ∃ w, Below w0.heap.size w0 w ∧ Below (w.setRow (A + 1) x.toArray).heap.size (w.setRow (A + 1) x.toArray) wq) : Below (A + 1) w0 (wq.setRow (A + 1 + 1) cs) := by
  obtain ⟨w, h1, h2⟩ := h
  refine below_setRow ((below_setRow (h1.mono hs) (Nat.le_refl _) _).trans (h2.mono ?_)) (by omega) _
  have := h1.size
  simp [World.setRow]
  omega
theorem setRow_same (w : World) (g : Nat) (cs : Array Value) (t : TypeId) (fr : Nat × Nat) (h : w.heap[g]? = some (.cells cs t fr)) (k : Nat) : (w.setRow g cs).heap[k]? = w.heap[k]? := by
  by_cases e : k = g
  · subst e
    rw [setRow_heap w k cs cs t fr h, h]
  · exact Go.setRow_other w g k cs e
theorem below_again {T : TypeId} {w0 wq : World} {g : Nat} {z : List Value} (h : Below w0.heap.size w0 wq) (f : Arr w0 g T z) : Below w0.heap.size w0 (wq.setRow g z.toArray) :=
  ⟨h.os, h.tape, h.output, by simpa [World.setRow] using h.size, fun k hk => (setRow_same wq g z.toArray T (0, 0) (f.below h f.lt) k).trans (h.block k hk)⟩
theorem below_two {T : TypeId} {w0 wq : World} {g : Nat} {z : List Value} (f : Arr w0 g T z) (h : ∃ w, Below w0.heap.size w0 w ∧ Below (w.setRow g z.toArray).heap.size (w.setRow g z.toArray) wq) : Below w0.heap.size w0 wq := by
  obtain ⟨w, h1, h2⟩ := h
  have := below_again h1 f
  exact this.trans (h2.mono this.size)
theorem rangeAt_other {w : World} {g : Nat} {l : List Value} (h : w.rangeAt g 0 l) {k : Nat} (cs : Array Value) (hk : g ≠ k) : (w.setRow k cs).rangeAt g 0 l := fun j v hv =>
  (World.cell?_of_block (w := w) (w' := w.setRow k cs) (a := ⟨g, 0 + j, none⟩) (Go.setRow_other w k g cs hk)).trans (h j v hv)
theorem two_stores {T : TypeId} {w0 wx wy wt : World} {A : Nat} {x y z1 z2 : List Value} (k1 : Arr w0 (A + 1) T z1) (k2 : Arr w0 (A + 1 + 1) T z2) (hx : Below w0.heap.size w0 wx)
    (hy : Below (wx.setRow (A + 1) x.toArray).heap.size (wx.setRow (A + 1) x.toArray) wy) (ht : Below (wy.setRow (A + 1 + 1) y.toArray).heap.size (wy.setRow (A + 1 + 1) y.toArray) wt) :
    Arr wt (A + 1) T x ∧ Arr wt (A + 1 + 1) T y ∧ Below (A + 1) w0 wt := by
  have a1 : Arr wy (A + 1) T x := ((k1.below hx k1.lt).setRow x.toArray).below hy (by have := (k1.below hx k1.lt).lt; simpa [World.setRow] using this)
  have a2 := arr_mid k2 ⟨wx, hx, hy⟩
  refine ⟨(a1.setRow_other (A + 1 + 1) y.toArray (by omega)).below ht (by have := a1.lt; simpa [World.setRow] using this), (a2.setRow y.toArray).below ht (by have := a2.lt; simpa [World.setRow] using this), ?_⟩
  have hb := below_mid (cs := y.toArray) (Nat.le_of_lt k1.lt) ⟨wx, hx, hy⟩
  exact hb.trans (ht.mono (by have := hb.size; have := k1.lt; omega))

set_option maxRecDepth 100000 in
set_option linter.unusedSimpArgs false in
set_option maxHeartbeats 1000000 in
theorem extends_any (N : Nat) : ∀ (old : List UInt8) (m n : Nat) (whole : Bool) (path : List (List UInt8)) (v : Value) (w : World), old.length = 32 → n ≤ N → 1 ≤ m → m ≤ n → n ≤ 1048576 → path.length ≤ 30 → Digs w v path → KT w →
    Calls Tryd.prog 53 #[Dv old, .int .i64 m, .int .i64 n, .bool whole, v] w fun e w' => e = .returned (.tuple #[Dv (pext old m n whole path).1, Dv (pext old m n whole path).2.1, .bool (pext old m n whole path).2.2]) ∧ Below w.heap.size w w' := by
  induction N with
  | zero => intro old m n whole path v w _ h1 h2 h3; omega
  | succ N ih =>
    intro old m n whole path v w hlf hN h1 hmn hmax hlen hV hK
    have Hk := Lib.hid hK; clear hK
    obtain ⟨la, hA, -, hal, hao⟩ := v8_list old hlf
    obtain ⟨lz, hZ, hzm, hzl, hzo⟩ := v8_list zd zd_len
    have HA := Lib.hid hA; have HZ := Lib.hid hZ
    have hu := Lib.hid Tryd.underlying24
    have la_HI := Lib.hid (inf_size infD32 la hal)
    have la_HS := Lib.hid (st_size la hal)
    have la_HO := Lib.hid (all_oneCell_toArray hao)
    have lz_HI := Lib.hid (inf_size infD32 lz hzl)
    have lz_HS := Lib.hid (st_size lz hzl)
    have lz_HO := Lib.hid (all_oneCell_toArray hzo)
    have hI := Lib.hid (show (Tryd.prog.info? 24).map (·.size) = some la.length by rw [hal]; exact infD32)
    have hZI := Lib.hid (show (Tryd.prog.info? 24).map (·.size) = some lz.length by rw [hzl]; exact infD32)
    have hzeq : List.replicate 32 (V8 0) = lz := by rw [hzm]; rfl
    have h0 := Lib.hid (arr3 w 24 la (List.replicate 32 (V8 0)) (List.replicate 32 (V8 0)))
    have hex : pext old m n whole path = pext old m n whole path := rfl
    conv at hex => rhs; rw [pext]
    rw [hex]
    clear hex
    by_cases he : m = n
    · subst he
      rw [if_pos rfl]
      cases whole
      · simp only [Bool.false_eq_true, if_false]
        by_cases hp1 : path.length = 1
        · rw [if_pos hp1]
          show Calls _ _ _ _ fun e w' => e = .returned (.tuple #[Dv (path.getD 0 []), Dv (path.getD 0 []), .bool true]) ∧ Below w.heap.size w w'
          obtain ⟨g, o, cap, rfl, hcap, hg, hr⟩ := hV.pos (by omega)
          have hr0 := hr 0 (by omega)
          have hd : (path.getD 0 []).length = 32 := by match path, hp1, hV with | [d], _, hV => exact hV.all d (by simp)
          rw [hp1]
          clear ih hV hr
          generalize path.getD 0 [] = d at *
          obtain ⟨ld, hD, hldm, hdl, hdo⟩ := v8_list d hd
          rw [← hldm, Nat.zero_mul, Nat.add_zero] at hr0
          have HR := Lib.hid hr0
          have HD := Lib.hid hD
          have ld_HI := Lib.hid (inf_size infD32 ld hdl); have ld_HS := Lib.hid (st_size ld hdl); have ld_HO := Lib.hid (all_oneCell_toArray hdo)
          have hDI := Lib.hid (show (Tryd.prog.info? 24).map (·.size) = some ld.length by rw [hdl]; exact infD32)
          rw [hA, hD]
          clear hA hao hal hZ hzm hzl hzo hzeq hldm hdl hdo hr0 hD hlen hp1 hcap
          go_enter Tryd.func53, Tryd.ntmps53
          go_upto_region 6 with (fail)
          have ⟨f0, f1, f2, f3, f4⟩ := h0.out
          change Code.wp _ _ _ _ (((w.alloc (.cells la.toArray 24)).alloc (.cells (List.replicate 32 (V8 0)).toArray 24)).alloc (.cells (List.replicate 32 (V8 0)).toArray 24))
          clear h0
          generalize ((w.alloc (.cells la.toArray 24)).alloc (.cells (List.replicate 32 (V8 0)).toArray 24)).alloc (.cells (List.replicate 32 (V8 0)).toArray 24) = w0 at *
          have hr := range_below HR.out f3 hg
          clear HR
          generalize hAe : w.heap.size = A at *
          have hg0 : g < A + 1 := by omega
          have jB := f3
          have HX1 := HD; have HX2 := HD
          refine wp_region_class2 8 [6, 7] [0, 1, 2, 3, 4, 5, 6, 7] (Below (A + 1) w0) (Below w0.heap.size w0) (Stable.below _) (fun _ h => h.mono (by omega)) (Below.refl _ _).drew (by kernel_rfl) (by kernel_rfl) ?_
          simp only [opsOf, List.getElem?_cons_succ, List.getElem?_cons_zero, List.drop_succ_cons, List.drop_zero]
          refine wpL_val ?v2 rfl (by rfl) (fun wq hq => ?y2) ?z2
          case y2 => go_simp; with_reducible rfl
          try simp only [Act.put, List.setIfInBounds_toArray, List.set_cons_zero, List.set_cons_succ]
          refine wpL_val ?v3 rfl (by rfl) (fun wq hq => ?y3) ?z3
          case y3 => go_simp; with_reducible rfl
          try simp only [Act.put, List.setIfInBounds_toArray, List.set_cons_zero, List.set_cons_succ]
          refine wpL_val (.agg ld.toArray) rfl (by rfl) (fun wq hq => quiet_ld 24 _ rfl _ _ rfl ld _ (range_below hr hq hg0) hu.out rfl hDI.out) ?_
          try simp only [Act.put, List.setIfInBounds_toArray, List.set_cons_zero, List.set_cons_succ]
          refine wpL_val ?v5 rfl (by rfl) (fun wq hq => ?y5) ?z5
          case y5 => go_simp; with_reducible rfl
          try simp only [Act.put, List.setIfInBounds_toArray, List.set_cons_zero, List.set_cons_succ]
          refine wpL_val ?v6 rfl (by rfl) (fun wq hq => ?y6) ?z6
          case y6 => go_simp; with_reducible rfl
          try simp only [Act.put, List.setIfInBounds_toArray, List.set_cons_zero, List.set_cons_succ]
          refine wpL_val (.agg ld.toArray) rfl (by rfl) (fun wq hq => quiet_ld 24 _ rfl _ _ rfl ld _ (range_below hr hq hg0) hu.out rfl hDI.out) ?_
          try simp only [Act.put, List.setIfInBounds_toArray, List.set_cons_zero, List.set_cons_succ]
          refine wpL_store rfl (by rfl) 24 (.tmp 10) (.tmp 32) rfl (A + 1) ld.toArray rfl rfl 24 _ (fun wq hq => f1.below hq f1.lt) ld_HI.out ld_HS.out ld_HO.out (Stable.belowAt (by omega)) (fun wq hq => below_setRow (hq.mono (by omega)) (by omega) _) ?_
          try simp only [Act.put, List.setIfInBounds_toArray, List.set_cons_zero, List.set_cons_succ]
          refine wpL_store rfl (by rfl) 24 (.tmp 11) (.tmp 35) rfl (A + 1 + 1) ld.toArray rfl rfl 24 _ (fun wq hq => arr_mid f2 hq) ld_HI.out ld_HS.out ld_HO.out (Stable.belowAt (by omega)) (fun wq hq => below_mid (by omega) hq) ?_
          try simp only [Act.put, List.setIfInBounds_toArray, List.set_cons_zero, List.set_cons_succ]
          refine wpL_nil ?_
          intro wt hwt
          obtain ⟨wy, ⟨wx, hx, hy⟩, ht⟩ := hwt
          have ⟨e1, e2, e3⟩ := two_stores f1 f2 hx hy ht
          have e4 := jB.trans (e3.mono (by omega))
          clear hx hy ht e3 f1 f2
          go_wp2_with fail
          exact bodyPost_ret (v := .tuple #[.agg ld.toArray, .agg ld.toArray, .bool true]) (results_rrt rfl _ _ (A + 1) (A + 1 + 1) 24 _ _ _ _ _ _ rfl rfl (by first | rfl | simp) e1 e2 hu.out rfl ld_HI.out ld_HI.out) rfl ⟨by first | rfl | (simp only [HX1.out, HX2.out]), by (try rw [hAe]); exact e4⟩
        · rw [if_neg hp1]
          show Calls _ _ _ _ fun e w' => e = .returned (.tuple #[Dv zd, Dv zd, .bool false]) ∧ Below w.heap.size w w'
          obtain ⟨av, cv, rfl⟩ := hV.shape
          have hne : ¬ ((path.length : Nat) : Int) = 1 := by omega
          rw [hA, hZ]
          clear ih hA hao hal hV hZ hzm hzl hzo hlen
          generalize path.length = q at *
          go_enter Tryd.func53, Tryd.ntmps53
          go_upto_region 5 with (fail)
          have ⟨f0, f1, f2, f3, f4⟩ := h0.out
          change Code.wp _ _ _ _ (((w.alloc (.cells la.toArray 24)).alloc (.cells (List.replicate 32 (V8 0)).toArray 24)).alloc (.cells (List.replicate 32 (V8 0)).toArray 24))
          clear h0
          generalize ((w.alloc (.cells la.toArray 24)).alloc (.cells (List.replicate 32 (V8 0)).toArray 24)).alloc (.cells (List.replicate 32 (V8 0)).toArray 24) = w0 at *
          generalize hAe : w.heap.size = A at *
          have jB := f3
          rw [hzeq] at f1 f2
          have r1 := f1.range
          have r2 := f2.range
          have HX1 := HZ; have HX2 := HZ
          refine wp_region_class 4 [2, 3] [0, 1, 2, 3] (Below w0.heap.size w0) (Stable.below w0) (Below.refl _ _).drew (by kernel_rfl) (by kernel_rfl) ?_
          simp only [opsOf, List.getElem?_cons_succ, List.getElem?_cons_zero, List.drop_succ_cons, List.drop_zero]
          refine wpL_val (.agg lz.toArray) rfl (by rfl) (fun wq hq => quiet_ld 24 _ rfl _ _ rfl lz _ (range_below r1 hq (by omega)) hu.out rfl hZI.out) ?_
          try simp only [Act.put, List.setIfInBounds_toArray, List.set_cons_zero, List.set_cons_succ]
          refine wpL_val (.agg lz.toArray) rfl (by rfl) (fun wq hq => quiet_ld 24 _ rfl _ _ rfl lz _ (range_below r2 hq (by omega)) hu.out rfl hZI.out) ?_
          try simp only [Act.put, List.setIfInBounds_toArray, List.set_cons_zero, List.set_cons_succ]
          refine wpL_store rfl (by rfl) 24 (.tmp 10) (.tmp 28) rfl (A + 1) lz.toArray rfl rfl 24 _ (fun wq hq => f1.below hq f1.lt) lz_HI.out rfl lz_HO.out (Stable.below _) (fun wq hq => below_again hq f1) ?_
          try simp only [Act.put, List.setIfInBounds_toArray, List.set_cons_zero, List.set_cons_succ]
          refine wpL_store rfl (by rfl) 24 (.tmp 11) (.tmp 29) rfl (A + 1 + 1) lz.toArray rfl rfl 24 _ (fun wq hq => f2.below (below_two f1 hq) f2.lt) lz_HI.out rfl lz_HO.out (Stable.below _) (fun wq hq => below_again (below_two f1 hq) f2) ?_
          try simp only [Act.put, List.setIfInBounds_toArray, List.set_cons_zero, List.set_cons_succ]
          refine wpL_nil ?_
          intro wt hwt
          obtain ⟨wy, ⟨wx, hx, hy⟩, ht⟩ := hwt
          have ⟨e1, e2, e3⟩ := two_stores f1 f2 hx hy ht
          have e4 := jB.trans (e3.mono (by omega))
          clear hx hy ht e3 f1 f2
          go_wp2_with fail
          exact bodyPost_ret (v := .tuple #[.agg lz.toArray, .agg lz.toArray, .bool false]) (results_rrt rfl _ _ (A + 1) (A + 1 + 1) 24 _ _ _ _ _ _ rfl rfl (by first | rfl | simp) e1 e2 hu.out rfl lz_HI.out lz_HI.out) rfl ⟨by first | rfl | (simp only [HX1.out, HX2.out]), by (try rw [hAe]); exact e4⟩
      · simp only [if_true]
        obtain ⟨av, cv, rfl⟩ := hV.shape
        show Calls _ _ _ _ fun e w' => e = .returned (.tuple #[Dv old, Dv old, .bool (decide (path.length = 0))]) ∧ Below w.heap.size w w'
        have hq0 : decide (path.length = 0) = (((path.length : Nat) : Int) == 0) := by rw [Bool.eq_iff_iff, decide_eq_true_eq, beq_iff_eq]; omega
        rw [hA, hq0]
        clear hq0
        clear ih hA hao hal hV hZ hzm hzl hzo hzeq hlen
        generalize path.length = q at *
        go_enter Tryd.func53, Tryd.ntmps53
        go_upto_region 3 with (fail)
        have ⟨f0, f1, f2, f3, f4⟩ := h0.out
        change Code.wp _ _ _ _ (((w.alloc (.cells la.toArray 24)).alloc (.cells (List.replicate 32 (V8 0)).toArray 24)).alloc (.cells (List.replicate 32 (V8 0)).toArray 24))
        clear h0
        generalize ((w.alloc (.cells la.toArray 24)).alloc (.cells (List.replicate 32 (V8 0)).toArray 24)).alloc (.cells (List.replicate 32 (V8 0)).toArray 24) = w0 at *
        generalize hAe : w.heap.size = A at *
        have jB := f3
        have r0 := f0.range
        have HX1 := HA; have HX2 := HA
        refine wp_region_class2 7 [5, 6] [0, 1, 2, 3, 4, 5, 6] (Below (A + 1) w0) (Below w0.heap.size w0) (Stable.below _) (fun _ h => h.mono (by omega)) (Below.refl _ _).drew (by kernel_rfl) (by kernel_rfl) ?_
        simp only [opsOf, List.getElem?_cons_succ, List.getElem?_cons_zero, List.drop_succ_cons, List.drop_zero]
        refine wpL_val (.agg la.toArray) rfl (by rfl) (fun wq hq => quiet_ld 24 _ rfl _ _ rfl la _ (range_below r0 hq (by omega)) hu.out rfl hI.out) ?_
        try simp only [Act.put, List.setIfInBounds_toArray, List.set_cons_zero, List.set_cons_succ]
        refine wpL_val (.agg la.toArray) rfl (by rfl) (fun wq hq => quiet_ld 24 _ rfl _ _ rfl la _ (range_below r0 hq (by omega)) hu.out rfl hI.out) ?_
        try simp only [Act.put, List.setIfInBounds_toArray, List.set_cons_zero, List.set_cons_succ]
        refine wpL_val ?v16 rfl (by rfl) (fun wq hq => ?y16) ?z16
        case y16 => go_simp; with_reducible rfl
        try simp only [Act.put, List.setIfInBounds_toArray, List.set_cons_zero, List.set_cons_succ]
        refine wpL_val ?v17 rfl (by rfl) (fun wq hq => ?y17) ?z17
        case y17 => go_simp; with_reducible rfl
        try simp only [Act.put, List.setIfInBounds_toArray, List.set_cons_zero, List.set_cons_succ]
        refine wpL_val ?v18 rfl (by rfl) (fun wq hq => ?y18) ?z18
        case y18 => go_simp; with_reducible rfl
        try simp only [Act.put, List.setIfInBounds_toArray, List.set_cons_zero, List.set_cons_succ]
        refine wpL_store rfl (by rfl) 24 (.tmp 10) (.tmp 20) rfl (A + 1) la.toArray rfl rfl 24 _ (fun wq hq => f1.below hq f1.lt) la_HI.out la_HS.out la_HO.out (Stable.belowAt (by omega)) (fun wq hq => below_setRow (hq.mono (by omega)) (by omega) _) ?_
        try simp only [Act.put, List.setIfInBounds_toArray, List.set_cons_zero, List.set_cons_succ]
        refine wpL_store rfl (by rfl) 24 (.tmp 11) (.tmp 21) rfl (A + 1 + 1) la.toArray rfl rfl 24 _ (fun wq hq => arr_mid f2 hq) la_HI.out la_HS.out la_HO.out (Stable.belowAt (by omega)) (fun wq hq => below_mid (by omega) hq) ?_
        try simp only [Act.put, List.setIfInBounds_toArray, List.set_cons_zero, List.set_cons_succ]
        refine wpL_nil ?_
        intro wt hwt
        obtain ⟨wy, ⟨wx, hx, hy⟩, ht⟩ := hwt
        have ⟨e1, e2, e3⟩ := two_stores f1 f2 hx hy ht
        have e4 := jB.trans (e3.mono (by omega))
        clear hx hy ht e3 f1 f2
        go_wp2_with fail
        exact bodyPost_ret (v := .tuple #[.agg la.toArray, .agg la.toArray, .bool (((q : Nat) : Int) == 0)]) (results_rrt rfl _ _ (A + 1) (A + 1 + 1) 24 _ _ _ _ _ _ rfl rfl (by first | rfl | simp) e1 e2 hu.out rfl la_HI.out la_HI.out) rfl ⟨by first | rfl | (simp only [HX1.out, HX2.out]), by (try rw [hAe]); exact e4⟩
    · have h3 : 2 ≤ n := by omega
      rw [if_neg he, if_pos h3]
      have hne : ¬ ((m : Int) = (n : Int)) := by omega
      by_cases hm0 : path.length = 0
      · rw [if_pos hm0]
        show Calls _ _ _ _ fun e w' => e = .returned (.tuple #[Dv zd, Dv zd, .bool false]) ∧ Below w.heap.size w w'
        obtain ⟨av, cv, rfl⟩ := hV.shape
        rw [hA, hZ, hm0]
        clear ih hA hao hal hV hZ hzm hzl hzo hlen hm0
        go_enter Tryd.func53, Tryd.ntmps53
        go_upto_region 8 with (fail)
        have ⟨f0, f1, f2, f3, f4⟩ := h0.out
        change Code.wp _ _ _ _ (((w.alloc (.cells la.toArray 24)).alloc (.cells (List.replicate 32 (V8 0)).toArray 24)).alloc (.cells (List.replicate 32 (V8 0)).toArray 24))
        clear h0
        generalize ((w.alloc (.cells la.toArray 24)).alloc (.cells (List.replicate 32 (V8 0)).toArray 24)).alloc (.cells (List.replicate 32 (V8 0)).toArray 24) = w0 at *
        generalize hAe : w.heap.size = A at *
        have jB := f3
        rw [hzeq] at f1 f2
        have r1 := f1.range
        have r2 := f2.range
        have HX1 := HZ; have HX2 := HZ
        refine wp_region_class 4 [2, 3] [0, 1, 2, 3] (Below w0.heap.size w0) (Stable.below w0) (Below.refl _ _).drew (by kernel_rfl) (by kernel_rfl) ?_
        simp only [opsOf, List.getElem?_cons_succ, List.getElem?_cons_zero, List.drop_succ_cons, List.drop_zero]
        refine wpL_val (.agg lz.toArray) rfl (by rfl) (fun wq hq => quiet_ld 24 _ rfl _ _ rfl lz _ (range_below r1 hq (by omega)) hu.out rfl hZI.out) ?_
        try simp only [Act.put, List.setIfInBounds_toArray, List.set_cons_zero, List.set_cons_succ]
        refine wpL_val (.agg lz.toArray) rfl (by rfl) (fun wq hq => quiet_ld 24 _ rfl _ _ rfl lz _ (range_below r2 hq (by omega)) hu.out rfl hZI.out) ?_
        try simp only [Act.put, List.setIfInBounds_toArray, List.set_cons_zero, List.set_cons_succ]
        refine wpL_store rfl (by rfl) 24 (.tmp 10) (.tmp 39) rfl (A + 1) lz.toArray rfl rfl 24 _ (fun wq hq => f1.below hq f1.lt) lz_HI.out rfl lz_HO.out (Stable.below _) (fun wq hq => below_again hq f1) ?_
        try simp only [Act.put, List.setIfInBounds_toArray, List.set_cons_zero, List.set_cons_succ]
        refine wpL_store rfl (by rfl) 24 (.tmp 11) (.tmp 40) rfl (A + 1 + 1) lz.toArray rfl rfl 24 _ (fun wq hq => f2.below (below_two f1 hq) f2.lt) lz_HI.out rfl lz_HO.out (Stable.below _) (fun wq hq => below_again (below_two f1 hq) f2) ?_
        try simp only [Act.put, List.setIfInBounds_toArray, List.set_cons_zero, List.set_cons_succ]
        refine wpL_nil ?_
        intro wt hwt
        obtain ⟨wy, ⟨wx, hx, hy⟩, ht⟩ := hwt
        have ⟨e1, e2, e3⟩ := two_stores f1 f2 hx hy ht
        have e4 := jB.trans (e3.mono (by omega))
        clear hx hy ht e3 f1 f2
        go_wp2_with fail
        exact bodyPost_ret (v := .tuple #[.agg lz.toArray, .agg lz.toArray, .bool false]) (results_rrt rfl _ _ (A + 1) (A + 1 + 1) 24 _ _ _ _ _ _ rfl rfl (by first | rfl | simp) e1 e2 hu.out rfl lz_HI.out lz_HI.out) rfl ⟨by first | rfl | (simp only [HX1.out, HX2.out]), by (try rw [hAe]); exact e4⟩
      · rw [if_neg hm0]
        have hp1 := lp_pos n
        have hp2 := lp_lt n h3
        have hl := left_any n h3 hmax
        obtain ⟨g, o, cap, rfl, hcap, hg, hd, hr, hT⟩ := last_facts hV (by omega)
        have htl : (path.take (path.length - 1)).length = path.length - 1 := by rw [List.length_take]; omega
        clear hV
        generalize lp n = p at *
        generalize path.getD (path.length - 1) [] = d at *
        generalize path.take (path.length - 1) = rest at *
        generalize path.length = q at *
        obtain ⟨ld, hD, hldm, hdl, hdo⟩ := v8_list d hd
        rw [← hldm] at hr
        have HD := Lib.hid hD
        have ld_HI := Lib.hid (inf_size infD32 ld hdl); have ld_HS := Lib.hid (st_size ld hdl); have ld_HO := Lib.hid (all_oneCell_toArray hdo)
        have hDI := Lib.hid (show (Tryd.prog.info? 24).map (·.size) = some ld.length by rw [hdl]; exact infD32)
        have hm1 : q - 1 ≤ cap := by omega
        have hm2 : q - 1 < q := by omega
        have hm00 : (0 : Int) ≤ (q : Int) - 1 := by omega
        have hmt : ((q : Int) - 1).toNat = q - 1 := by omega
        have hml : (q : Int) - 1 < (q : Int) := by omega
        have hmc : (q : Int) - 1 ≤ (cap : Int) := by omega
        have hm3 : (1 : Int) ≤ (q : Int) := by omega
        have hme : ¬ ((q : Int) = 0) := by omega
        have hw1 : IntKind.i64.wrap ((q : Int) - 1) = (q : Int) - 1 := IntWalk.i64_in _ (by omega)
        by_cases hc : m ≤ p
        · rw [if_pos hc]
          have ihc := fun v w hV hK => ih old m p whole rest v w hlf (by omega) (by omega) (by omega) (by omega) (by omega) hV hK
          have hpl := pext_length p old m p whole rest (Nat.le_refl _) hlf hT.all
          rw [hA] at ihc
          generalize pext old m p whole rest = rr at *
          obtain ⟨ra, rb, ok⟩ := rr
          simp only at ihc hpl ⊢
          obtain ⟨lra, hRA, -, hral, hrao⟩ := v8_list ra hpl.1
          obtain ⟨lrb, hRB, -, hrbl, hrbo⟩ := v8_list rb hpl.2
          have HRA := Lib.hid hRA; have HRB := Lib.hid hRB
          have lra_HI := Lib.hid (inf_size infD32 lra hral); have lra_HS := Lib.hid (st_size lra hral); have lra_HO := Lib.hid (all_oneCell_toArray hrao)
          have lrb_HI := Lib.hid (inf_size infD32 lrb hrbl); have lrb_HS := Lib.hid (st_size lrb hrbl); have lrb_HO := Lib.hid (all_oneCell_toArray hrbo)
          have hxl := Sha.node_length rb d
          have hnd := fun w hK => node_la rb d hpl.2 hd _ _ hRB hD w hK
          generalize Sha.node rb d = x at *
          obtain ⟨lx, hX, -, hxx, hxo⟩ := v8_list x hxl
          have HX1 := Lib.hid hRA; have HX2 := Lib.hid hX
          have lx_HI := Lib.hid (inf_size infD32 lx hxx); have lx_HS := Lib.hid (st_size lx hxx); have lx_HO := Lib.hid (all_oneCell_toArray hxo)
          rw [hA]
          clear hX hxx hxo hxl hRA hRB hral hrbl hrao hrbo hpl hA hao hal hZ hzm hzl hzo hzeq hldm hdo hlen ih hm0
          have HR := Lib.hid hr
          have HT := Lib.hid hT
          clear hr hT
          go_enter Tryd.func53, Tryd.ntmps53
          go_upto_region 9 with (fail)
          have ⟨f0, f1, f2, f3, f4⟩ := h0.out
          change Code.wp _ _ _ _ (((w.alloc (.cells la.toArray 24)).alloc (.cells (List.replicate 32 (V8 0)).toArray 24)).alloc (.cells (List.replicate 32 (V8 0)).toArray 24))
          clear h0
          generalize ((w.alloc (.cells la.toArray 24)).alloc (.cells (List.replicate 32 (V8 0)).toArray 24)).alloc (.cells (List.replicate 32 (V8 0)).toArray 24) = w0 at *
          have hr := range_below HR.out f3 hg
          have hT0 := HT.out.below f3 (Nat.le_refl _)
          have hg0 : g < w0.heap.size := by omega
          have HKT := Lib.hid (Hk.out.below f3 (Nat.le_refl _))
          clear HR HT
          generalize hAe : w.heap.size = A at *
          refine wp_region_class 13 [11, 12] [0, 1, 2, 3, 4, 5, 6, 7, 8, 9, 10, 11, 12] (Below w0.heap.size w0) (Stable.below w0) (Below.refl _ _).drew (by kernel_rfl) (by kernel_rfl) ?_
          simp only [opsOf, List.getElem?_cons_succ, List.getElem?_cons_zero, List.drop_succ_cons, List.drop_zero]
          refine wpL_val ?v25 rfl (by rfl) (fun wq hq => ?y25) ?z25
          case y25 => go_simp; with_reducible rfl
          try simp only [Act.put, List.setIfInBounds_toArray, List.set_cons_zero, List.set_cons_succ]
          refine wpL_val ?v26 rfl (by rfl) (fun wq hq => ?y26) ?z26
          case y26 => go_simp; with_reducible rfl
          try simp only [Act.put, List.setIfInBounds_toArray, List.set_cons_zero, List.set_cons_succ]
          refine wpL_val ?v27 rfl (by rfl) (fun wq hq => ?y27) ?z27
          case y27 => go_simp; with_reducible rfl
          try simp only [Act.put, List.setIfInBounds_toArray, List.set_cons_zero, List.set_cons_succ]
          refine wpL_val ?v28 rfl (by rfl) (fun wq hq => ?y28) ?z28
          case y28 => go_simp; with_reducible rfl
          try simp only [Act.put, List.setIfInBounds_toArray, List.set_cons_zero, List.set_cons_succ]
          refine wpL_val ?v29 rfl (by rfl) (fun wq hq => ?y29) ?z29
          case y29 => go_simp; with_reducible rfl
          try simp only [Act.put, List.setIfInBounds_toArray, List.set_cons_zero, List.set_cons_succ]
          refine wpL_val (.agg ld.toArray) rfl (by rfl) (fun wq hq => quiet_ld 24 _ rfl _ _ rfl ld _ (range_below hr hq hg0) hu.out rfl hDI.out) ?_
          try simp only [Act.put, List.setIfInBounds_toArray, List.set_cons_zero, List.set_cons_succ]
          refine wpL_val ?v31 rfl (by rfl) (fun wq hq => ?y31) ?z31
          case y31 => go_simp; with_reducible rfl
          try simp only [Act.put, List.setIfInBounds_toArray, List.set_cons_zero, List.set_cons_succ]
          refine wpL_val ?v32 rfl (by rfl) (fun wq hq => ?y32) ?z32
          case y32 => go_simp; with_reducible rfl
          try simp only [Act.put, List.setIfInBounds_toArray, List.set_cons_zero, List.set_cons_succ]
          refine wpL_val ?v33 rfl (by rfl) (fun wq hq => ?y33) ?z33
          case y33 => go_simp; with_reducible rfl
          try simp only [Act.put, List.setIfInBounds_toArray, List.set_cons_zero, List.set_cons_succ]
          refine wpL_val ?v34 rfl (by rfl) (fun wq hq => ?y34) ?z34
          case y34 => go_simp; with_reducible rfl
          try simp only [Act.put, List.setIfInBounds_toArray, List.set_cons_zero, List.set_cons_succ]
          refine wpL_val ?v35 rfl (by rfl) (fun wq hq => ?y35) ?z35
          case y35 => go_simp; with_reducible rfl
          try simp only [Act.put, List.setIfInBounds_toArray, List.set_cons_zero, List.set_cons_succ]
          refine wpL_new (fun b => .pointer (some ⟨b, 0, none⟩)) (Z32 24) rfl (by rfl) (Stable.below w0) (fun _ h => h) (fun wq hq => ?ynew) (fun gl hgl => ?_)
          case ynew => go_simp; rfl
          try simp only [Act.put, List.setIfInBounds_toArray, List.set_cons_zero, List.set_cons_succ]
          have hgl2 : w0.heap.size ≤ gl := by obtain ⟨wx, hx, rfl⟩ := hgl; exact hx.size
          clear hgl
          refine wpL_store rfl (by rfl) 24 (.tmp 13) (.tmp 46) rfl gl ld.toArray rfl rfl 24 _ (fun wq hq => hq.2.2) ld_HI.out ld_HS.out ld_HO.out (Stable.below _) (fun wq hq => below_setRow hq.1 hgl2 _) ?_
          try simp only [Act.put, List.setIfInBounds_toArray, List.set_cons_zero, List.set_cons_succ]
          refine wpL_nil ?_
          intro wt hwt
          obtain ⟨wx, hx, hwt⟩ := hwt
          have hFx : Arr wx gl 24 (List.replicate 32 (V8 0)) := hx.2.2
          have hFS : Arr wt gl 24 ld := (hFx.setRow ld.toArray).below hwt (by have := hFx.lt; simpa [World.setRow] using this)
          have hB1 : Below w0.heap.size w0 wt := (below_setRow hx.1 hgl2 _).trans (hwt.mono (by have := hx.1.size; simp [World.setRow]; omega))
          clear hx hwt hFx
          have j0 := f0.below hB1 f0.lt
          have j1 := f1.below hB1 f1.lt
          have j2 := f2.below hB1 f2.lt
          have jB := f3.trans (hB1.mono (by omega))
          have jT := hT0.below hB1 (Nat.le_refl _)
          have jK := Lib.hid (HKT.out.below hB1 (Nat.le_refl _))
          have hKlt : 0 < A := by have := Hk.out.1; omega
          clear f0 f1 f2 f3 hT0 hB1 hg0 hr HKT Hk
          go_upto_region 12 with (go_at_call 66; refine (hl _).mono ?_; rintro e w1 ⟨rfl, rfl⟩)
          go_wp2_with ((with_reducible refine at_ld 24 (.tmp 5) ?_); refine wpList_load_row rfl 24 (.tmp 5) rfl A rfl 24 la.toArray (0, 0) _ j0 hu.out rfl la_HI.out ?_)
          refine (ihc _ _ jT jK.out).mono ?_
          rintro e w2 ⟨rfl, hb2⟩
          rw [HRA.out, HRB.out]
          have q0 := j0.below hb2 j0.lt
          have q1 := j1.below hb2 j1.lt
          have q2 := j2.below hb2 j2.lt
          have qF := hFS.below hb2 hFS.lt
          have qB := jB.trans (hb2.mono (by have := jB.size; omega))
          have qK := Lib.hid (jK.out.below hb2 (Nat.le_refl _))
          clear j0 j1 j2 hFS jB jK jT hb2
          have s1 := q1.setRow lra.toArray
          have s2 := q2.setRow_other (A + 1) lra.toArray (by omega)
          have t1 := s1.setRow_other (A + 1 + 1) lrb.toArray (by omega)
          have t2 := s2.setRow lrb.toArray
          have tF := (qF.setRow_other (A + 1) lra.toArray (by omega)).setRow_other (A + 1 + 1) lrb.toArray (by omega)
          have tB : Below A w ((w2.setRow (A + 1) lra.toArray).setRow (A + 1 + 1) lrb.toArray) := below_setRow (below_setRow qB (by omega) _) (by omega) _
          have tB2 : Below (A + 1) w2 ((w2.setRow (A + 1) lra.toArray).setRow (A + 1 + 1) lrb.toArray) := below_setRow (below_setRow (Below.refl _ _) (by omega) _) (by omega) _
          have tS : ((w2.setRow (A + 1) lra.toArray).setRow (A + 1 + 1) lrb.toArray).heap.size = w2.heap.size := by simp [World.setRow]
          go_upto_region 13 with (first | ((with_reducible refine at_st 24 (.tmp 10) (.tmp 64) ?_); refine wpList_store_row rfl 24 (.tmp 10) (.tmp 64) rfl (A + 1) lra.toArray rfl rfl 24 _ q1 lra_HI.out lra_HS.out lra_HO.out ?_) | ((with_reducible refine at_st 24 (.tmp 11) (.tmp 65) ?_); refine wpList_store_row rfl 24 (.tmp 11) (.tmp 65) rfl (A + 1 + 1) lrb.toArray rfl rfl 24 _ s2 lrb_HI.out lrb_HS.out lrb_HO.out ?_))
          change Code.wp _ _ _ _ ((w2.setRow (A + 1) lra.toArray).setRow (A + 1 + 1) lrb.toArray)
          change Arr ((w2.setRow (A + 1) lra.toArray).setRow (A + 1 + 1) lrb.toArray) (A + 1) 24 lra at t1
          change Arr ((w2.setRow (A + 1) lra.toArray).setRow (A + 1 + 1) lrb.toArray) (A + 1 + 1) 24 lrb at t2
          have tK : KT ((w2.setRow (A + 1) lra.toArray).setRow (A + 1 + 1) lrb.toArray) := ⟨by rw [tS]; exact qK.out.1, fun k hk => (tB2.cell (p := ⟨0, k, none⟩) (show 0 < A + 1 by omega)).trans (qK.out.2 k hk)⟩
          clear q0 q1 q2 qF qB qK s1 s2 tB2 tS
          generalize (w2.setRow (A + 1) lra.toArray).setRow (A + 1 + 1) lrb.toArray = w3 at *
          have f1 := t1; have f2 := t2
          have TK := Lib.hid tK
          have hl3 : A + 1 + 1 < w3.heap.size := t2.lt
          have hKq : ∀ wq, Below (A + 1) w3 wq → KT wq := fun wq hq => ⟨Nat.lt_of_lt_of_le TK.out.1 hq.size, fun k hk => (hq.cell (p := ⟨0, k, none⟩) (show 0 < A + 1 by omega)).trans (TK.out.2 k hk)⟩
          have r1 := t1.range; have r2 := t2.range; have r3 := tF.range
          have hlF := tF.lt
          clear tK t1 t2
          have hl2 : A + 1 < w3.heap.size := f1.lt
          refine wp_region_held_drew (S := fun w' => Below (A + 1) w3 w' ∧ w'.rangeAt gl 0 ld) (by kernel_rfl) ⟨(Below.refl _ _).drew, range_below r3 (Below.refl _ _).drew hlF⟩ (fun hH1 => ?_)
          have hU1 := f1.below (Below.refl _ _).drew hl2; have hV1 := f2.below (Below.refl _ _).drew hl3
          clear f1 f2
          generalize w3.drew = W1 at *
          refine wpAnyH_take (i := 2) rfl (by kernel_rfl) (by kernel_rfl) (by kernel_rfl) (fun _ _ _ h => h) (yieldsIf_load_mid (by rfl) _ _ rfl _ _ rfl ld _ (fun w h => h.2) hu.out rfl hDI.out) hH1 ?_
          try simp only [Act.put, List.getElem_toArray, List.getElem_cons_succ, List.getElem_cons_zero, List.setIfInBounds_toArray, List.set_cons_zero, List.set_cons_succ]
          refine wpAnyH_take (i := 4) (v := ?tv3) rfl (by kernel_rfl) (by kernel_rfl) (by kernel_rfl) (fun _ _ _ h => h) (Or.inl ⟨by rfl, ?ty3⟩) hH1 ?tr3
          case ty3 => intro wq hq; go_simp; with_reducible rfl
          try simp only [Act.put, List.getElem_toArray, List.getElem_cons_succ, List.getElem_cons_zero, List.setIfInBounds_toArray, List.set_cons_zero, List.set_cons_succ]
          refine wpAnyH_ready (rs := [0, 1]) (by kernel_rfl) (by simp) ?_
          refine AllReadyH.cons rfl (fun K hK => ?_) (AllReadyH.cons rfl (fun K hK => ?_) AllReadyH.nil)
          · rw [if_pos (by rfl)]
            refine wp_load_row 24 (.tmp 10) rfl (A + 1) rfl 24 lra.toArray (0, 0) _ hU1 hu.out rfl lra_HI.out ?_
            refine hK.out _ _ hH1 (fun _ => ?_)
            clear hK K
            try simp only [Act.put, List.getElem_toArray, List.getElem_cons_succ, List.getElem_cons_zero, List.setIfInBounds_toArray, List.set_cons_zero, List.set_cons_succ]
            refine wpAnyH_ready (rs := [1]) (by kernel_rfl) (by simp) ?_
            refine AllReadyH.cons rfl (fun K hK => ?_) AllReadyH.nil
            · rw [if_pos (by rfl)]
              refine wp_load_row 24 (.tmp 11) rfl (A + 1 + 1) rfl 24 lrb.toArray (0, 0) _ hV1 hu.out rfl lrb_HI.out ?_
              refine hK.out _ _ hH1 (fun _ => ?_)
              clear hK K
              try simp only [Act.put, List.getElem_toArray, List.getElem_cons_succ, List.getElem_cons_zero, List.setIfInBounds_toArray, List.set_cons_zero, List.set_cons_succ]
              refine wpAnyH_ready (rs := [3]) (by kernel_rfl) (by simp) ?_
              refine AllReadyH.cons rfl (fun K hK => ?_) AllReadyH.nil
              · rw [if_pos (by rfl)]
                go_simp
                refine (hnd _ (hKq _ hH1.1)).mono ?_
                rintro e W6 ⟨rfl, hb6⟩
                rw [HX2.out]
                have hU6 := hU1.below hb6 hU1.lt; have hV6 := hV1.below hb6 hV1.lt
                refine hK.out _ _ ⟨hH1.1.trans (hb6.mono (by have := hH1.1.size; omega)), range_below hH1.2 hb6 (by have := hH1.1.size; omega)⟩ (fun hH6 => ?_)
                clear hK K
                try simp only [Act.put, List.getElem_toArray, List.getElem_cons_succ, List.getElem_cons_zero, List.setIfInBounds_toArray, List.set_cons_zero, List.set_cons_succ]
                clear hb6 hU1 hV1 hH1
                refine wpAnyH_ready (rs := [5]) (by kernel_rfl) (by simp) ?_
                refine AllReadyH.cons rfl (fun K hK => ?_) AllReadyH.nil
                · rw [if_pos (by rfl)]
                  refine wp_store_row 24 (.tmp 10) (.tmp 67) rfl (A + 1) lra.toArray rfl rfl 24 _ hU6 lra_HI.out (lra_HS.out.symm.trans lra_HS.out) lra_HO.out ?_
                  refine hK.out _ _ ⟨below_setRow hH6.1 (by omega) _, rangeAt_other hH6.2 _ (by omega)⟩ (fun hH7 => ?_)
                  clear hK K
                  try simp only [Act.put, List.getElem_toArray, List.getElem_cons_succ, List.getElem_cons_zero, List.setIfInBounds_toArray, List.set_cons_zero, List.set_cons_succ]
                  have hU7 := hU6.setRow lra.toArray; have hV7 := hV6.setRow_other (A + 1) lra.toArray (by omega)
                  change Arr (W6.setRow (A + 1) lra.toArray) (A + 1) 24 lra at hU7
                  change wpAnyH _ _ _ _ _ _ _ _ (W6.setRow (A + 1) lra.toArray)
                  change Below (A + 1) w3 (W6.setRow (A + 1) lra.toArray) ∧ (W6.setRow (A + 1) lra.toArray).rangeAt gl 0 ld at hH7
                  clear hU6 hV6 hH6
                  generalize W6.setRow (A + 1) lra.toArray = W7 at *
                  refine wpAnyH_ready (rs := [6]) (by kernel_rfl) (by simp) ?_
                  refine AllReadyH.cons rfl (fun K hK => ?_) AllReadyH.nil
                  · rw [if_pos (by rfl)]
                    refine wp_store_row 24 (.tmp 11) (.tmp 70) rfl (A + 1 + 1) lx.toArray rfl rfl 24 _ hV7 lx_HI.out (lrb_HS.out.symm.trans lx_HS.out) lx_HO.out ?_
                    refine hK.out _ _ ⟨below_setRow hH7.1 (by omega) _, rangeAt_other hH7.2 _ (by omega)⟩ (fun hH8 => ?_)
                    clear hK K
                    try simp only [Act.put, List.getElem_toArray, List.getElem_cons_succ, List.getElem_cons_zero, List.setIfInBounds_toArray, List.set_cons_zero, List.set_cons_succ]
                    have hU8 := hU7.setRow_other (A + 1 + 1) lx.toArray (by omega); have hV8 := hV7.setRow lx.toArray
                    change Arr (W7.setRow (A + 1 + 1) lx.toArray) (A + 1 + 1) 24 lx at hV8
                    change wpAnyH _ _ _ _ _ _ _ _ (W7.setRow (A + 1 + 1) lx.toArray)
                    change Below (A + 1) w3 (W7.setRow (A + 1 + 1) lx.toArray) ∧ (W7.setRow (A + 1 + 1) lx.toArray).rangeAt gl 0 ld at hH8
                    clear hU7 hV7 hH7
                    generalize W7.setRow (A + 1 + 1) lx.toArray = W8 at *
                    refine wpAnyH_take (i := 7) (v := ?tv9) rfl (by kernel_rfl) (by kernel_rfl) (by kernel_rfl) (fun _ _ _ h => h) (Or.inl ⟨by rfl, ?ty9⟩) hH8 ?tr9
                    case ty9 => intro wq hq; go_simp; with_reducible rfl
                    try simp only [Act.put, List.getElem_toArray, List.getElem_cons_succ, List.getElem_cons_zero, List.setIfInBounds_toArray, List.set_cons_zero, List.set_cons_succ]
                    refine wpAnyH_done (by kernel_rfl) ?_ _
                    simp only [List.getElem_toArray, List.getElem_cons_succ, List.getElem_cons_zero, Exit.then, Act.put, List.setIfInBounds_toArray, List.set_cons_zero, List.set_cons_succ]
                    go_at_K
                    have hfin := tB.trans (hH8.1.mono (by omega))
                    go_wp2_with fail
                    exact bodyPost_ret (v := .tuple #[.agg lra.toArray, .agg lx.toArray, .bool ok]) (results_rrt rfl _ _ (A + 1) (A + 1 + 1) 24 _ _ _ _ _ _ rfl rfl rfl hU8 hV8 hu.out rfl lra_HI.out lx_HI.out) rfl ⟨by simp only [HX1.out, HX2.out], by (try rw [hAe]); exact hfin⟩
          · rw [if_pos (by rfl)]
            refine wp_load_row 24 (.tmp 11) rfl (A + 1 + 1) rfl 24 lrb.toArray (0, 0) _ hV1 hu.out rfl lrb_HI.out ?_
            refine hK.out _ _ hH1 (fun _ => ?_)
            clear hK K
            try simp only [Act.put, List.getElem_toArray, List.getElem_cons_succ, List.getElem_cons_zero, List.setIfInBounds_toArray, List.set_cons_zero, List.set_cons_succ]
            refine wpAnyH_ready (rs := [0, 3]) (by kernel_rfl) (by simp) ?_
            refine AllReadyH.cons rfl (fun K hK => ?_) (AllReadyH.cons rfl (fun K hK => ?_) AllReadyH.nil)
            · rw [if_pos (by rfl)]
              refine wp_load_row 24 (.tmp 10) rfl (A + 1) rfl 24 lra.toArray (0, 0) _ hU1 hu.out rfl lra_HI.out ?_
              refine hK.out _ _ hH1 (fun _ => ?_)
              clear hK K
              try simp only [Act.put, List.getElem_toArray, List.getElem_cons_succ, List.getElem_cons_zero, List.setIfInBounds_toArray, List.set_cons_zero, List.set_cons_succ]
              refine wpAnyH_ready (rs := [3]) (by kernel_rfl) (by simp) ?_
              refine AllReadyH.cons rfl (fun K hK => ?_) AllReadyH.nil
              · rw [if_pos (by rfl)]
                go_simp
                refine (hnd _ (hKq _ hH1.1)).mono ?_
                rintro e W12 ⟨rfl, hb12⟩
                rw [HX2.out]
                have hU12 := hU1.below hb12 hU1.lt; have hV12 := hV1.below hb12 hV1.lt
                refine hK.out _ _ ⟨hH1.1.trans (hb12.mono (by have := hH1.1.size; omega)), range_below hH1.2 hb12 (by have := hH1.1.size; omega)⟩ (fun hH12 => ?_)
                clear hK K
                try simp only [Act.put, List.getElem_toArray, List.getElem_cons_succ, List.getElem_cons_zero, List.setIfInBounds_toArray, List.set_cons_zero, List.set_cons_succ]
                clear hb12 hU1 hV1 hH1
                refine wpAnyH_ready (rs := [5]) (by kernel_rfl) (by simp) ?_
                refine AllReadyH.cons rfl (fun K hK => ?_) AllReadyH.nil
                · rw [if_pos (by rfl)]
                  refine wp_store_row 24 (.tmp 10) (.tmp 67) rfl (A + 1) lra.toArray rfl rfl 24 _ hU12 lra_HI.out (lra_HS.out.symm.trans lra_HS.out) lra_HO.out ?_
                  refine hK.out _ _ ⟨below_setRow hH12.1 (by omega) _, rangeAt_other hH12.2 _ (by omega)⟩ (fun hH13 => ?_)
                  clear hK K
                  try simp only [Act.put, List.getElem_toArray, List.getElem_cons_succ, List.getElem_cons_zero, List.setIfInBounds_toArray, List.set_cons_zero, List.set_cons_succ]
                  have hU13 := hU12.setRow lra.toArray; have hV13 := hV12.setRow_other (A + 1) lra.toArray (by omega)
                  change Arr (W12.setRow (A + 1) lra.toArray) (A + 1) 24 lra at hU13
                  change wpAnyH _ _ _ _ _ _ _ _ (W12.setRow (A + 1) lra.toArray)
                  change Below (A + 1) w3 (W12.setRow (A + 1) lra.toArray) ∧ (W12.setRow (A + 1) lra.toArray).rangeAt gl 0 ld at hH13
                  clear hU12 hV12 hH12
                  generalize W12.setRow (A + 1) lra.toArray = W13 at *
                  refine wpAnyH_ready (rs := [6]) (by kernel_rfl) (by simp) ?_
                  refine AllReadyH.cons rfl (fun K hK => ?_) AllReadyH.nil
                  · rw [if_pos (by rfl)]
                    refine wp_store_row 24 (.tmp 11) (.tmp 70) rfl (A + 1 + 1) lx.toArray rfl rfl 24 _ hV13 lx_HI.out (lrb_HS.out.symm.trans lx_HS.out) lx_HO.out ?_
                    refine hK.out _ _ ⟨below_setRow hH13.1 (by omega) _, rangeAt_other hH13.2 _ (by omega)⟩ (fun hH14 => ?_)
                    clear hK K
                    try simp only [Act.put, List.getElem_toArray, List.getElem_cons_succ, List.getElem_cons_zero, List.setIfInBounds_toArray, List.set_cons_zero, List.set_cons_succ]
                    have hU14 := hU13.setRow_other (A + 1 + 1) lx.toArray (by omega); have hV14 := hV13.setRow lx.toArray
                    change Arr (W13.setRow (A + 1 + 1) lx.toArray) (A + 1 + 1) 24 lx at hV14
                    change wpAnyH _ _ _ _ _ _ _ _ (W13.setRow (A + 1 + 1) lx.toArray)
                    change Below (A + 1) w3 (W13.setRow (A + 1 + 1) lx.toArray) ∧ (W13.setRow (A + 1 + 1) lx.toArray).rangeAt gl 0 ld at hH14
                    clear hU13 hV13 hH13
                    generalize W13.setRow (A + 1 + 1) lx.toArray = W14 at *
                    refine wpAnyH_take (i := 7) (v := ?tv15) rfl (by kernel_rfl) (by kernel_rfl) (by kernel_rfl) (fun _ _ _ h => h) (Or.inl ⟨by rfl, ?ty15⟩) hH14 ?tr15
                    case ty15 => intro wq hq; go_simp; with_reducible rfl
                    try simp only [Act.put, List.getElem_toArray, List.getElem_cons_succ, List.getElem_cons_zero, List.setIfInBounds_toArray, List.set_cons_zero, List.set_cons_succ]
                    refine wpAnyH_done (by kernel_rfl) ?_ _
                    simp only [List.getElem_toArray, List.getElem_cons_succ, List.getElem_cons_zero, Exit.then, Act.put, List.setIfInBounds_toArray, List.set_cons_zero, List.set_cons_succ]
                    go_at_K
                    have hfin := tB.trans (hH14.1.mono (by omega))
                    go_wp2_with fail
                    exact bodyPost_ret (v := .tuple #[.agg lra.toArray, .agg lx.toArray, .bool ok]) (results_rrt rfl _ _ (A + 1) (A + 1 + 1) 24 _ _ _ _ _ _ rfl rfl rfl hU14 hV14 hu.out rfl lra_HI.out lx_HI.out) rfl ⟨by simp only [HX1.out, HX2.out], by (try rw [hAe]); exact hfin⟩
            · rw [if_pos (by rfl)]
              go_simp
              refine (hnd _ (hKq _ hH1.1)).mono ?_
              rintro e W16 ⟨rfl, hb16⟩
              rw [HX2.out]
              have hU16 := hU1.below hb16 hU1.lt; have hV16 := hV1.below hb16 hV1.lt
              refine hK.out _ _ ⟨hH1.1.trans (hb16.mono (by have := hH1.1.size; omega)), range_below hH1.2 hb16 (by have := hH1.1.size; omega)⟩ (fun hH16 => ?_)
              clear hK K
              try simp only [Act.put, List.getElem_toArray, List.getElem_cons_succ, List.getElem_cons_zero, List.setIfInBounds_toArray, List.set_cons_zero, List.set_cons_succ]
              clear hb16 hU1 hV1 hH1
              refine wpAnyH_ready (rs := [0]) (by kernel_rfl) (by simp) ?_
              refine AllReadyH.cons rfl (fun K hK => ?_) AllReadyH.nil
              · rw [if_pos (by rfl)]
                refine wp_load_row 24 (.tmp 10) rfl (A + 1) rfl 24 lra.toArray (0, 0) _ hU16 hu.out rfl lra_HI.out ?_
                refine hK.out _ _ hH16 (fun _ => ?_)
                clear hK K
                try simp only [Act.put, List.getElem_toArray, List.getElem_cons_succ, List.getElem_cons_zero, List.setIfInBounds_toArray, List.set_cons_zero, List.set_cons_succ]
                refine wpAnyH_ready (rs := [5]) (by kernel_rfl) (by simp) ?_
                refine AllReadyH.cons rfl (fun K hK => ?_) AllReadyH.nil
                · rw [if_pos (by rfl)]
                  refine wp_store_row 24 (.tmp 10) (.tmp 67) rfl (A + 1) lra.toArray rfl rfl 24 _ hU16 lra_HI.out (lra_HS.out.symm.trans lra_HS.out) lra_HO.out ?_
                  refine hK.out _ _ ⟨below_setRow hH16.1 (by omega) _, rangeAt_other hH16.2 _ (by omega)⟩ (fun hH18 => ?_)
                  clear hK K
                  try simp only [Act.put, List.getElem_toArray, List.getElem_cons_succ, List.getElem_cons_zero, List.setIfInBounds_toArray, List.set_cons_zero, List.set_cons_succ]
                  have hU18 := hU16.setRow lra.toArray; have hV18 := hV16.setRow_other (A + 1) lra.toArray (by omega)
                  change Arr (W16.setRow (A + 1) lra.toArray) (A + 1) 24 lra at hU18
                  change wpAnyH _ _ _ _ _ _ _ _ (W16.setRow (A + 1) lra.toArray)
                  change Below (A + 1) w3 (W16.setRow (A + 1) lra.toArray) ∧ (W16.setRow (A + 1) lra.toArray).rangeAt gl 0 ld at hH18
                  clear hU16 hV16 hH16
                  generalize W16.setRow (A + 1) lra.toArray = W18 at *
                  refine wpAnyH_ready (rs := [6]) (by kernel_rfl) (by simp) ?_
                  refine AllReadyH.cons rfl (fun K hK => ?_) AllReadyH.nil
                  · rw [if_pos (by rfl)]
                    refine wp_store_row 24 (.tmp 11) (.tmp 70) rfl (A + 1 + 1) lx.toArray rfl rfl 24 _ hV18 lx_HI.out (lrb_HS.out.symm.trans lx_HS.out) lx_HO.out ?_
                    refine hK.out _ _ ⟨below_setRow hH18.1 (by omega) _, rangeAt_other hH18.2 _ (by omega)⟩ (fun hH19 => ?_)
                    clear hK K
                    try simp only [Act.put, List.getElem_toArray, List.getElem_cons_succ, List.getElem_cons_zero, List.setIfInBounds_toArray, List.set_cons_zero, List.set_cons_succ]
                    have hU19 := hU18.setRow_other (A + 1 + 1) lx.toArray (by omega); have hV19 := hV18.setRow lx.toArray
                    change Arr (W18.setRow (A + 1 + 1) lx.toArray) (A + 1 + 1) 24 lx at hV19
                    change wpAnyH _ _ _ _ _ _ _ _ (W18.setRow (A + 1 + 1) lx.toArray)
                    change Below (A + 1) w3 (W18.setRow (A + 1 + 1) lx.toArray) ∧ (W18.setRow (A + 1 + 1) lx.toArray).rangeAt gl 0 ld at hH19
                    clear hU18 hV18 hH18
                    generalize W18.setRow (A + 1 + 1) lx.toArray = W19 at *
                    refine wpAnyH_take (i := 7) (v := ?tv20) rfl (by kernel_rfl) (by kernel_rfl) (by kernel_rfl) (fun _ _ _ h => h) (Or.inl ⟨by rfl, ?ty20⟩) hH19 ?tr20
                    case ty20 => intro wq hq; go_simp; with_reducible rfl
                    try simp only [Act.put, List.getElem_toArray, List.getElem_cons_succ, List.getElem_cons_zero, List.setIfInBounds_toArray, List.set_cons_zero, List.set_cons_succ]
                    refine wpAnyH_done (by kernel_rfl) ?_ _
                    simp only [List.getElem_toArray, List.getElem_cons_succ, List.getElem_cons_zero, Exit.then, Act.put, List.setIfInBounds_toArray, List.set_cons_zero, List.set_cons_succ]
                    go_at_K
                    have hfin := tB.trans (hH19.1.mono (by omega))
                    go_wp2_with fail
                    exact bodyPost_ret (v := .tuple #[.agg lra.toArray, .agg lx.toArray, .bool ok]) (results_rrt rfl _ _ (A + 1) (A + 1 + 1) 24 _ _ _ _ _ _ rfl rfl rfl hU19 hV19 hu.out rfl lra_HI.out lx_HI.out) rfl ⟨by simp only [HX1.out, HX2.out], by (try rw [hAe]); exact hfin⟩
        · rw [if_neg hc]
          have hw2 : IntKind.i64.wrap ((m : Int) - (p : Int)) = (m : Int) - (p : Int) := IntWalk.i64_in _ (by omega)
          have hw3 : IntKind.i64.wrap ((n : Int) - (p : Int)) = (n : Int) - (p : Int) := IntWalk.i64_in _ (by omega)
          have ihc := fun v w hV hK => ih old (m - p) (n - p) false rest v w hlf (by omega) (by omega) (by omega) (by omega) (by omega) hV hK
          have hpl := pext_length (n - p) old (m - p) (n - p) false rest (Nat.le_refl _) hlf hT.all
          rw [hA] at ihc
          have c1 : ((m - p : Nat) : Int) = (m : Int) - (p : Int) := by omega
          have c2 : ((n - p : Nat) : Int) = (n : Int) - (p : Int) := by omega
          rw [c1, c2] at ihc
          clear c1 c2
          generalize pext old (m - p) (n - p) false rest = rr at *
          obtain ⟨ra, rb, ok⟩ := rr
          simp only at ihc hpl ⊢
          obtain ⟨lra, hRA, -, hral, hrao⟩ := v8_list ra hpl.1
          obtain ⟨lrb, hRB, -, hrbl, hrbo⟩ := v8_list rb hpl.2
          have HRA := Lib.hid hRA; have HRB := Lib.hid hRB
          have lra_HI := Lib.hid (inf_size infD32 lra hral); have lra_HS := Lib.hid (st_size lra hral); have lra_HO := Lib.hid (all_oneCell_toArray hrao)
          have lrb_HI := Lib.hid (inf_size infD32 lrb hrbl); have lrb_HS := Lib.hid (st_size lrb hrbl); have lrb_HO := Lib.hid (all_oneCell_toArray hrbo)
          have hxl := Sha.node_length d rb
          have hyl := Sha.node_length d ra
          have hnd := fun w hK => node_la d rb hd hpl.2 _ _ hD hRB w hK
          have hnd1 := fun w hK => node_la d ra hd hpl.1 _ _ hD hRA w hK
          generalize Sha.node d rb = x at *
          generalize Sha.node d ra = y at *
          obtain ⟨lx, hX, -, hxx, hxo⟩ := v8_list x hxl
          obtain ⟨ly, hY, -, hyy, hyo⟩ := v8_list y hyl
          have HX1 := Lib.hid hY; have HX2 := Lib.hid hX
          have lx_HI := Lib.hid (inf_size infD32 lx hxx); have lx_HS := Lib.hid (st_size lx hxx); have lx_HO := Lib.hid (all_oneCell_toArray hxo)
          have ly_HI := Lib.hid (inf_size infD32 ly hyy); have ly_HS := Lib.hid (st_size ly hyy); have ly_HO := Lib.hid (all_oneCell_toArray hyo)
          rw [hA]
          clear hX hxx hxo hxl hY hyy hyo hyl hRA hRB hral hrbl hrao hrbo hpl hA hao hal hZ hzm hzl hzo hzeq hldm hdo hlen ih hm0
          have HR := Lib.hid hr
          have HT := Lib.hid hT
          clear hr hT
          go_enter Tryd.func53, Tryd.ntmps53
          go_upto_region 9 with (fail)
          have ⟨f0, f1, f2, f3, f4⟩ := h0.out
          change Code.wp _ _ _ _ (((w.alloc (.cells la.toArray 24)).alloc (.cells (List.replicate 32 (V8 0)).toArray 24)).alloc (.cells (List.replicate 32 (V8 0)).toArray 24))
          clear h0
          generalize ((w.alloc (.cells la.toArray 24)).alloc (.cells (List.replicate 32 (V8 0)).toArray 24)).alloc (.cells (List.replicate 32 (V8 0)).toArray 24) = w0 at *
          have hr := range_below HR.out f3 hg
          have hT0 := HT.out.below f3 (Nat.le_refl _)
          have hg0 : g < w0.heap.size := by omega
          have HKT := Lib.hid (Hk.out.below f3 (Nat.le_refl _))
          clear HR HT
          generalize hAe : w.heap.size = A at *
          refine wp_region_class 13 [11, 12] [0, 1, 2, 3, 4, 5, 6, 7, 8, 9, 10, 11, 12] (Below w0.heap.size w0) (Stable.below w0) (Below.refl _ _).drew (by kernel_rfl) (by kernel_rfl) ?_
          simp only [opsOf, List.getElem?_cons_succ, List.getElem?_cons_zero, List.drop_succ_cons, List.drop_zero]
          refine wpL_val ?v38 rfl (by rfl) (fun wq hq => ?y38) ?z38
          case y38 => go_simp; with_reducible rfl
          try simp only [Act.put, List.setIfInBounds_toArray, List.set_cons_zero, List.set_cons_succ]
          refine wpL_val ?v39 rfl (by rfl) (fun wq hq => ?y39) ?z39
          case y39 => go_simp; with_reducible rfl
          try simp only [Act.put, List.setIfInBounds_toArray, List.set_cons_zero, List.set_cons_succ]
          refine wpL_val ?v40 rfl (by rfl) (fun wq hq => ?y40) ?z40
          case y40 => go_simp; with_reducible rfl
          try simp only [Act.put, List.setIfInBounds_toArray, List.set_cons_zero, List.set_cons_succ]
          refine wpL_val ?v41 rfl (by rfl) (fun wq hq => ?y41) ?z41
          case y41 => go_simp; with_reducible rfl
          try simp only [Act.put, List.setIfInBounds_toArray, List.set_cons_zero, List.set_cons_succ]
          refine wpL_val ?v42 rfl (by rfl) (fun wq hq => ?y42) ?z42
          case y42 => go_simp; with_reducible rfl
          try simp only [Act.put, List.setIfInBounds_toArray, List.set_cons_zero, List.set_cons_succ]
          refine wpL_val (.agg ld.toArray) rfl (by rfl) (fun wq hq => quiet_ld 24 _ rfl _ _ rfl ld _ (range_below hr hq hg0) hu.out rfl hDI.out) ?_
          try simp only [Act.put, List.setIfInBounds_toArray, List.set_cons_zero, List.set_cons_succ]
          refine wpL_val ?v44 rfl (by rfl) (fun wq hq => ?y44) ?z44
          case y44 => go_simp; with_reducible rfl
          try simp only [Act.put, List.setIfInBounds_toArray, List.set_cons_zero, List.set_cons_succ]
          refine wpL_val ?v45 rfl (by rfl) (fun wq hq => ?y45) ?z45
          case y45 => go_simp; with_reducible rfl
          try simp only [Act.put, List.setIfInBounds_toArray, List.set_cons_zero, List.set_cons_succ]
          refine wpL_val ?v46 rfl (by rfl) (fun wq hq => ?y46) ?z46
          case y46 => go_simp; with_reducible rfl
          try simp only [Act.put, List.setIfInBounds_toArray, List.set_cons_zero, List.set_cons_succ]
          refine wpL_val ?v47 rfl (by rfl) (fun wq hq => ?y47) ?z47
          case y47 => go_simp; with_reducible rfl
          try simp only [Act.put, List.setIfInBounds_toArray, List.set_cons_zero, List.set_cons_succ]
          refine wpL_val ?v48 rfl (by rfl) (fun wq hq => ?y48) ?z48
          case y48 => go_simp; with_reducible rfl
          try simp only [Act.put, List.setIfInBounds_toArray, List.set_cons_zero, List.set_cons_succ]
          refine wpL_new (fun b => .pointer (some ⟨b, 0, none⟩)) (Z32 24) rfl (by rfl) (Stable.below w0) (fun _ h => h) (fun wq hq => ?ynew) (fun gl hgl => ?_)
          case ynew => go_simp; rfl
          try simp only [Act.put, List.setIfInBounds_toArray, List.set_cons_zero, List.set_cons_succ]
          have hgl2 : w0.heap.size ≤ gl := by obtain ⟨wx, hx, rfl⟩ := hgl; exact hx.size
          clear hgl
          refine wpL_store rfl (by rfl) 24 (.tmp 13) (.tmp 46) rfl gl ld.toArray rfl rfl 24 _ (fun wq hq => hq.2.2) ld_HI.out ld_HS.out ld_HO.out (Stable.below _) (fun wq hq => below_setRow hq.1 hgl2 _) ?_
          try simp only [Act.put, List.setIfInBounds_toArray, List.set_cons_zero, List.set_cons_succ]
          refine wpL_nil ?_
          intro wt hwt
          obtain ⟨wx, hx, hwt⟩ := hwt
          have hFx : Arr wx gl 24 (List.replicate 32 (V8 0)) := hx.2.2
          have hFS : Arr wt gl 24 ld := (hFx.setRow ld.toArray).below hwt (by have := hFx.lt; simpa [World.setRow] using this)
          have hB1 : Below w0.heap.size w0 wt := (below_setRow hx.1 hgl2 _).trans (hwt.mono (by have := hx.1.size; simp [World.setRow]; omega))
          clear hx hwt hFx
          have j0 := f0.below hB1 f0.lt
          have j1 := f1.below hB1 f1.lt
          have j2 := f2.below hB1 f2.lt
          have jB := f3.trans (hB1.mono (by omega))
          have jT := hT0.below hB1 (Nat.le_refl _)
          have jK := Lib.hid (HKT.out.below hB1 (Nat.le_refl _))
          have hKlt : 0 < A := by have := Hk.out.1; omega
          clear f0 f1 f2 f3 hT0 hB1 hg0 hr HKT Hk
          go_upto_region 14 with (go_at_call 66; refine (hl _).mono ?_; rintro e w1 ⟨rfl, rfl⟩)
          go_wp2_with ((with_reducible refine at_ld 24 (.tmp 5) ?_); refine wpList_load_row rfl 24 (.tmp 5) rfl A rfl 24 la.toArray (0, 0) _ j0 hu.out rfl la_HI.out ?_)
          refine (ihc _ _ jT jK.out).mono ?_
          rintro e w2 ⟨rfl, hb2⟩
          rw [HRA.out, HRB.out]
          have q0 := j0.below hb2 j0.lt
          have q1 := j1.below hb2 j1.lt
          have q2 := j2.below hb2 j2.lt
          have qF := hFS.below hb2 hFS.lt
          have qB := jB.trans (hb2.mono (by have := jB.size; omega))
          have qK := Lib.hid (jK.out.below hb2 (Nat.le_refl _))
          clear j0 j1 j2 hFS jB jK jT hb2
          have s1 := q1.setRow lra.toArray
          have s2 := q2.setRow_other (A + 1) lra.toArray (by omega)
          have t1 := s1.setRow_other (A + 1 + 1) lrb.toArray (by omega)
          have t2 := s2.setRow lrb.toArray
          have tF := (qF.setRow_other (A + 1) lra.toArray (by omega)).setRow_other (A + 1 + 1) lrb.toArray (by omega)
          have tB : Below A w ((w2.setRow (A + 1) lra.toArray).setRow (A + 1 + 1) lrb.toArray) := below_setRow (below_setRow qB (by omega) _) (by omega) _
          have tB2 : Below (A + 1) w2 ((w2.setRow (A + 1) lra.toArray).setRow (A + 1 + 1) lrb.toArray) := below_setRow (below_setRow (Below.refl _ _) (by omega) _) (by omega) _
          have tS : ((w2.setRow (A + 1) lra.toArray).setRow (A + 1 + 1) lrb.toArray).heap.size = w2.heap.size := by simp [World.setRow]
          go_upto_region 15 with (first | ((with_reducible refine at_st 24 (.tmp 10) (.tmp 82) ?_); refine wpList_store_row rfl 24 (.tmp 10) (.tmp 82) rfl (A + 1) lra.toArray rfl rfl 24 _ q1 lra_HI.out lra_HS.out lra_HO.out ?_) | ((with_reducible refine at_st 24 (.tmp 11) (.tmp 83) ?_); refine wpList_store_row rfl 24 (.tmp 11) (.tmp 83) rfl (A + 1 + 1) lrb.toArray rfl rfl 24 _ s2 lrb_HI.out lrb_HS.out lrb_HO.out ?_))
          change Code.wp _ _ _ _ ((w2.setRow (A + 1) lra.toArray).setRow (A + 1 + 1) lrb.toArray)
          change Arr ((w2.setRow (A + 1) lra.toArray).setRow (A + 1 + 1) lrb.toArray) (A + 1) 24 lra at t1
          change Arr ((w2.setRow (A + 1) lra.toArray).setRow (A + 1 + 1) lrb.toArray) (A + 1 + 1) 24 lrb at t2
          have tK : KT ((w2.setRow (A + 1) lra.toArray).setRow (A + 1 + 1) lrb.toArray) := ⟨by rw [tS]; exact qK.out.1, fun k hk => (tB2.cell (p := ⟨0, k, none⟩) (show 0 < A + 1 by omega)).trans (qK.out.2 k hk)⟩
          clear q0 q1 q2 qF qB qK s1 s2 tB2 tS
          generalize (w2.setRow (A + 1) lra.toArray).setRow (A + 1 + 1) lrb.toArray = w3 at *
          have f1 := t1; have f2 := t2
          have TK := Lib.hid tK
          have hl3 : A + 1 + 1 < w3.heap.size := t2.lt
          have hKq : ∀ wq, Below (A + 1) w3 wq → KT wq := fun wq hq => ⟨Nat.lt_of_lt_of_le TK.out.1 hq.size, fun k hk => (hq.cell (p := ⟨0, k, none⟩) (show 0 < A + 1 by omega)).trans (TK.out.2 k hk)⟩
          have r1 := t1.range; have r2 := t2.range; have r3 := tF.range
          have hlF := tF.lt
          clear tK t1 t2
          have hl2 : A + 1 < w3.heap.size := f1.lt
          refine wp_region_held_drew (S := fun w' => Below (A + 1) w3 w' ∧ w'.rangeAt gl 0 ld) (by kernel_rfl) ⟨(Below.refl _ _).drew, range_below r3 (Below.refl _ _).drew hlF⟩ (fun hH21 => ?_)
          have hU21 := f1.below (Below.refl _ _).drew hl2; have hV21 := f2.below (Below.refl _ _).drew hl3
          clear f1 f2
          generalize w3.drew = W21 at *
          refine wpAnyH_take (i := 0) rfl (by kernel_rfl) (by kernel_rfl) (by kernel_rfl) (fun _ _ _ h => h) (yieldsIf_load_mid (by rfl) _ _ rfl _ _ rfl ld _ (fun w h => h.2) hu.out rfl hDI.out) hH21 ?_
          try simp only [Act.put, List.getElem_toArray, List.getElem_cons_succ, List.getElem_cons_zero, List.setIfInBounds_toArray, List.set_cons_zero, List.set_cons_succ]
          refine wpAnyH_take (i := 3) rfl (by kernel_rfl) (by kernel_rfl) (by kernel_rfl) (fun _ _ _ h => h) (yieldsIf_load_mid (by rfl) _ _ rfl _ _ rfl ld _ (fun w h => h.2) hu.out rfl hDI.out) hH21 ?_
          try simp only [Act.put, List.getElem_toArray, List.getElem_cons_succ, List.getElem_cons_zero, List.setIfInBounds_toArray, List.set_cons_zero, List.set_cons_succ]
          refine wpAnyH_take (i := 6) (v := ?tv24) rfl (by kernel_rfl) (by kernel_rfl) (by kernel_rfl) (fun _ _ _ h => h) (Or.inl ⟨by rfl, ?ty24⟩) hH21 ?tr24
          case ty24 => intro wq hq; go_simp; with_reducible rfl
          try simp only [Act.put, List.getElem_toArray, List.getElem_cons_succ, List.getElem_cons_zero, List.setIfInBounds_toArray, List.set_cons_zero, List.set_cons_succ]
          refine wpAnyH_ready (rs := [1, 4]) (by kernel_rfl) (by simp) ?_
          refine AllReadyH.cons rfl (fun K hK => ?_) (AllReadyH.cons rfl (fun K hK => ?_) AllReadyH.nil)
          · rw [if_pos (by rfl)]
            refine wp_load_row 24 (.tmp 10) rfl (A + 1) rfl 24 lra.toArray (0, 0) _ hU21 hu.out rfl lra_HI.out ?_
            refine hK.out _ _ hH21 (fun _ => ?_)
            clear hK K
            try simp only [Act.put, List.getElem_toArray, List.getElem_cons_succ, List.getElem_cons_zero, List.setIfInBounds_toArray, List.set_cons_zero, List.set_cons_succ]
            refine wpAnyH_ready (rs := [2, 4]) (by kernel_rfl) (by simp) ?_
            refine AllReadyH.cons rfl (fun K hK => ?_) (AllReadyH.cons rfl (fun K hK => ?_) AllReadyH.nil)
            · rw [if_pos (by rfl)]
              go_simp
              refine (hnd1 _ (hKq _ hH21.1)).mono ?_
              rintro e W26 ⟨rfl, hb26⟩
              rw [HX1.out]
              have hU26 := hU21.below hb26 hU21.lt; have hV26 := hV21.below hb26 hV21.lt
              refine hK.out _ _ ⟨hH21.1.trans (hb26.mono (by have := hH21.1.size; omega)), range_below hH21.2 hb26 (by have := hH21.1.size; omega)⟩ (fun hH26 => ?_)
              clear hK K
              try simp only [Act.put, List.getElem_toArray, List.getElem_cons_succ, List.getElem_cons_zero, List.setIfInBounds_toArray, List.set_cons_zero, List.set_cons_succ]
              clear hb26 hU21 hV21 hH21
              refine wpAnyH_ready (rs := [4]) (by kernel_rfl) (by simp) ?_
              refine AllReadyH.cons rfl (fun K hK => ?_) AllReadyH.nil
              · rw [if_pos (by rfl)]
                refine wp_load_row 24 (.tmp 11) rfl (A + 1 + 1) rfl 24 lrb.toArray (0, 0) _ hV26 hu.out rfl lrb_HI.out ?_
                refine hK.out _ _ hH26 (fun _ => ?_)
                clear hK K
                try simp only [Act.put, List.getElem_toArray, List.getElem_cons_succ, List.getElem_cons_zero, List.setIfInBounds_toArray, List.set_cons_zero, List.set_cons_succ]
                refine wpAnyH_ready (rs := [5]) (by kernel_rfl) (by simp) ?_
                refine AllReadyH.cons rfl (fun K hK => ?_) AllReadyH.nil
                · rw [if_pos (by rfl)]
                  go_simp
                  refine (hnd _ (hKq _ hH26.1)).mono ?_
                  rintro e W28 ⟨rfl, hb28⟩
                  rw [HX2.out]
                  have hU28 := hU26.below hb28 hU26.lt; have hV28 := hV26.below hb28 hV26.lt
                  refine hK.out _ _ ⟨hH26.1.trans (hb28.mono (by have := hH26.1.size; omega)), range_below hH26.2 hb28 (by have := hH26.1.size; omega)⟩ (fun hH28 => ?_)
                  clear hK K
                  try simp only [Act.put, List.getElem_toArray, List.getElem_cons_succ, List.getElem_cons_zero, List.setIfInBounds_toArray, List.set_cons_zero, List.set_cons_succ]
                  clear hb28 hU26 hV26 hH26
                  refine wpAnyH_ready (rs := [7]) (by kernel_rfl) (by simp) ?_
                  refine AllReadyH.cons rfl (fun K hK => ?_) AllReadyH.nil
                  · rw [if_pos (by rfl)]
                    refine wp_store_row 24 (.tmp 10) (.tmp 87) rfl (A + 1) ly.toArray rfl rfl 24 _ hU28 ly_HI.out (lra_HS.out.symm.trans ly_HS.out) ly_HO.out ?_
                    refine hK.out _ _ ⟨below_setRow hH28.1 (by omega) _, rangeAt_other hH28.2 _ (by omega)⟩ (fun hH29 => ?_)
                    clear hK K
                    try simp only [Act.put, List.getElem_toArray, List.getElem_cons_succ, List.getElem_cons_zero, List.setIfInBounds_toArray, List.set_cons_zero, List.set_cons_succ]
                    have hU29 := hU28.setRow ly.toArray; have hV29 := hV28.setRow_other (A + 1) ly.toArray (by omega)
                    change Arr (W28.setRow (A + 1) ly.toArray) (A + 1) 24 ly at hU29
                    change wpAnyH _ _ _ _ _ _ _ _ (W28.setRow (A + 1) ly.toArray)
                    change Below (A + 1) w3 (W28.setRow (A + 1) ly.toArray) ∧ (W28.setRow (A + 1) ly.toArray).rangeAt gl 0 ld at hH29
                    clear hU28 hV28 hH28
                    generalize W28.setRow (A + 1) ly.toArray = W29 at *
                    refine wpAnyH_ready (rs := [8]) (by kernel_rfl) (by simp) ?_
                    refine AllReadyH.cons rfl (fun K hK => ?_) AllReadyH.nil
                    · rw [if_pos (by rfl)]
                      refine wp_store_row 24 (.tmp 11) (.tmp 90) rfl (A + 1 + 1) lx.toArray rfl rfl 24 _ hV29 lx_HI.out (lrb_HS.out.symm.trans lx_HS.out) lx_HO.out ?_
                      refine hK.out _ _ ⟨below_setRow hH29.1 (by omega) _, rangeAt_other hH29.2 _ (by omega)⟩ (fun hH30 => ?_)
                      clear hK K
                      try simp only [Act.put, List.getElem_toArray, List.getElem_cons_succ, List.getElem_cons_zero, List.setIfInBounds_toArray, List.set_cons_zero, List.set_cons_succ]
                      have hU30 := hU29.setRow_other (A + 1 + 1) lx.toArray (by omega); have hV30 := hV29.setRow lx.toArray
                      change Arr (W29.setRow (A + 1 + 1) lx.toArray) (A + 1 + 1) 24 lx at hV30
                      change wpAnyH _ _ _ _ _ _ _ _ (W29.setRow (A + 1 + 1) lx.toArray)
                      change Below (A + 1) w3 (W29.setRow (A + 1 + 1) lx.toArray) ∧ (W29.setRow (A + 1 + 1) lx.toArray).rangeAt gl 0 ld at hH30
                      clear hU29 hV29 hH29
                      generalize W29.setRow (A + 1 + 1) lx.toArray = W30 at *
                      refine wpAnyH_take (i := 9) (v := ?tv31) rfl (by kernel_rfl) (by kernel_rfl) (by kernel_rfl) (fun _ _ _ h => h) (Or.inl ⟨by rfl, ?ty31⟩) hH30 ?tr31
                      case ty31 => intro wq hq; go_simp; with_reducible rfl
                      try simp only [Act.put, List.getElem_toArray, List.getElem_cons_succ, List.getElem_cons_zero, List.setIfInBounds_toArray, List.set_cons_zero, List.set_cons_succ]
                      refine wpAnyH_done (by kernel_rfl) ?_ _
                      simp only [List.getElem_toArray, List.getElem_cons_succ, List.getElem_cons_zero, Exit.then, Act.put, List.setIfInBounds_toArray, List.set_cons_zero, List.set_cons_succ]
                      go_at_K
                      have hfin := tB.trans (hH30.1.mono (by omega))
                      go_wp2_with fail
                      exact bodyPost_ret (v := .tuple #[.agg ly.toArray, .agg lx.toArray, .bool ok]) (results_rrt rfl _ _ (A + 1) (A + 1 + 1) 24 _ _ _ _ _ _ rfl rfl rfl hU30 hV30 hu.out rfl ly_HI.out lx_HI.out) rfl ⟨by simp only [HX1.out, HX2.out], by (try rw [hAe]); exact hfin⟩
            · rw [if_pos (by rfl)]
              refine wp_load_row 24 (.tmp 11) rfl (A + 1 + 1) rfl 24 lrb.toArray (0, 0) _ hV21 hu.out rfl lrb_HI.out ?_
              refine hK.out _ _ hH21 (fun _ => ?_)
              clear hK K
              try simp only [Act.put, List.getElem_toArray, List.getElem_cons_succ, List.getElem_cons_zero, List.setIfInBounds_toArray, List.set_cons_zero, List.set_cons_succ]
              refine wpAnyH_ready (rs := [2]) (by kernel_rfl) (by simp) ?_
              refine AllReadyH.cons rfl (fun K hK => ?_) AllReadyH.nil
              · rw [if_pos (by rfl)]
                go_simp
                refine (hnd1 _ (hKq _ hH21.1)).mono ?_
                rintro e W33 ⟨rfl, hb33⟩
                rw [HX1.out]
                have hU33 := hU21.below hb33 hU21.lt; have hV33 := hV21.below hb33 hV21.lt
                refine hK.out _ _ ⟨hH21.1.trans (hb33.mono (by have := hH21.1.size; omega)), range_below hH21.2 hb33 (by have := hH21.1.size; omega)⟩ (fun hH33 => ?_)
                clear hK K
                try simp only [Act.put, List.getElem_toArray, List.getElem_cons_succ, List.getElem_cons_zero, List.setIfInBounds_toArray, List.set_cons_zero, List.set_cons_succ]
                clear hb33 hU21 hV21 hH21
                refine wpAnyH_ready (rs := [5]) (by kernel_rfl) (by simp) ?_
                refine AllReadyH.cons rfl (fun K hK => ?_) AllReadyH.nil
                · rw [if_pos (by rfl)]
                  go_simp
                  refine (hnd _ (hKq _ hH33.1)).mono ?_
                  rintro e W34 ⟨rfl, hb34⟩
                  rw [HX2.out]
                  have hU34 := hU33.below hb34 hU33.lt; have hV34 := hV33.below hb34 hV33.lt
                  refine hK.out _ _ ⟨hH33.1.trans (hb34.mono (by have := hH33.1.size; omega)), range_below hH33.2 hb34 (by have := hH33.1.size; omega)⟩ (fun hH34 => ?_)
                  clear hK K
                  try simp only [Act.put, List.getElem_toArray, List.getElem_cons_succ, List.getElem_cons_zero, List.setIfInBounds_toArray, List.set_cons_zero, List.set_cons_succ]
                  clear hb34 hU33 hV33 hH33
                  refine wpAnyH_ready (rs := [7]) (by kernel_rfl) (by simp) ?_
                  refine AllReadyH.cons rfl (fun K hK => ?_) AllReadyH.nil
                  · rw [if_pos (by rfl)]
                    refine wp_store_row 24 (.tmp 10) (.tmp 87) rfl (A + 1) ly.toArray rfl rfl 24 _ hU34 ly_HI.out (lra_HS.out.symm.trans ly_HS.out) ly_HO.out ?_
                    refine hK.out _ _ ⟨below_setRow hH34.1 (by omega) _, rangeAt_other hH34.2 _ (by omega)⟩ (fun hH35 => ?_)
                    clear hK K
                    try simp only [Act.put, List.getElem_toArray, List.getElem_cons_succ, List.getElem_cons_zero, List.setIfInBounds_toArray, List.set_cons_zero, List.set_cons_succ]
                    have hU35 := hU34.setRow ly.toArray; have hV35 := hV34.setRow_other (A + 1) ly.toArray (by omega)
                    change Arr (W34.setRow (A + 1) ly.toArray) (A + 1) 24 ly at hU35
                    change wpAnyH _ _ _ _ _ _ _ _ (W34.setRow (A + 1) ly.toArray)
                    change Below (A + 1) w3 (W34.setRow (A + 1) ly.toArray) ∧ (W34.setRow (A + 1) ly.toArray).rangeAt gl 0 ld at hH35
                    clear hU34 hV34 hH34
                    generalize W34.setRow (A + 1) ly.toArray = W35 at *
                    refine wpAnyH_ready (rs := [8]) (by kernel_rfl) (by simp) ?_
                    refine AllReadyH.cons rfl (fun K hK => ?_) AllReadyH.nil
                    · rw [if_pos (by rfl)]
                      refine wp_store_row 24 (.tmp 11) (.tmp 90) rfl (A + 1 + 1) lx.toArray rfl rfl 24 _ hV35 lx_HI.out (lrb_HS.out.symm.trans lx_HS.out) lx_HO.out ?_
                      refine hK.out _ _ ⟨below_setRow hH35.1 (by omega) _, rangeAt_other hH35.2 _ (by omega)⟩ (fun hH36 => ?_)
                      clear hK K
                      try simp only [Act.put, List.getElem_toArray, List.getElem_cons_succ, List.getElem_cons_zero, List.setIfInBounds_toArray, List.set_cons_zero, List.set_cons_succ]
                      have hU36 := hU35.setRow_other (A + 1 + 1) lx.toArray (by omega); have hV36 := hV35.setRow lx.toArray
                      change Arr (W35.setRow (A + 1 + 1) lx.toArray) (A + 1 + 1) 24 lx at hV36
                      change wpAnyH _ _ _ _ _ _ _ _ (W35.setRow (A + 1 + 1) lx.toArray)
                      change Below (A + 1) w3 (W35.setRow (A + 1 + 1) lx.toArray) ∧ (W35.setRow (A + 1 + 1) lx.toArray).rangeAt gl 0 ld at hH36
                      clear hU35 hV35 hH35
                      generalize W35.setRow (A + 1 + 1) lx.toArray = W36 at *
                      refine wpAnyH_take (i := 9) (v := ?tv37) rfl (by kernel_rfl) (by kernel_rfl) (by kernel_rfl) (fun _ _ _ h => h) (Or.inl ⟨by rfl, ?ty37⟩) hH36 ?tr37
                      case ty37 => intro wq hq; go_simp; with_reducible rfl
                      try simp only [Act.put, List.getElem_toArray, List.getElem_cons_succ, List.getElem_cons_zero, List.setIfInBounds_toArray, List.set_cons_zero, List.set_cons_succ]
                      refine wpAnyH_done (by kernel_rfl) ?_ _
                      simp only [List.getElem_toArray, List.getElem_cons_succ, List.getElem_cons_zero, Exit.then, Act.put, List.setIfInBounds_toArray, List.set_cons_zero, List.set_cons_succ]
                      go_at_K
                      have hfin := tB.trans (hH36.1.mono (by omega))
                      go_wp2_with fail
                      exact bodyPost_ret (v := .tuple #[.agg ly.toArray, .agg lx.toArray, .bool ok]) (results_rrt rfl _ _ (A + 1) (A + 1 + 1) 24 _ _ _ _ _ _ rfl rfl rfl hU36 hV36 hu.out rfl ly_HI.out lx_HI.out) rfl ⟨by simp only [HX1.out, HX2.out], by (try rw [hAe]); exact hfin⟩
          · rw [if_pos (by rfl)]
            refine wp_load_row 24 (.tmp 11) rfl (A + 1 + 1) rfl 24 lrb.toArray (0, 0) _ hV21 hu.out rfl lrb_HI.out ?_
            refine hK.out _ _ hH21 (fun _ => ?_)
            clear hK K
            try simp only [Act.put, List.getElem_toArray, List.getElem_cons_succ, List.getElem_cons_zero, List.setIfInBounds_toArray, List.set_cons_zero, List.set_cons_succ]
            refine wpAnyH_ready (rs := [1]) (by kernel_rfl) (by simp) ?_
            refine AllReadyH.cons rfl (fun K hK => ?_) AllReadyH.nil
            · rw [if_pos (by rfl)]
              refine wp_load_row 24 (.tmp 10) rfl (A + 1) rfl 24 lra.toArray (0, 0) _ hU21 hu.out rfl lra_HI.out ?_
              refine hK.out _ _ hH21 (fun _ => ?_)
              clear hK K
              try simp only [Act.put, List.getElem_toArray, List.getElem_cons_succ, List.getElem_cons_zero, List.setIfInBounds_toArray, List.set_cons_zero, List.set_cons_succ]
              refine wpAnyH_ready (rs := [2]) (by kernel_rfl) (by simp) ?_
              refine AllReadyH.cons rfl (fun K hK => ?_) AllReadyH.nil
              · rw [if_pos (by rfl)]
                go_simp
                refine (hnd1 _ (hKq _ hH21.1)).mono ?_
                rintro e W40 ⟨rfl, hb40⟩
                rw [HX1.out]
                have hU40 := hU21.below hb40 hU21.lt; have hV40 := hV21.below hb40 hV21.lt
                refine hK.out _ _ ⟨hH21.1.trans (hb40.mono (by have := hH21.1.size; omega)), range_below hH21.2 hb40 (by have := hH21.1.size; omega)⟩ (fun hH40 => ?_)
                clear hK K
                try simp only [Act.put, List.getElem_toArray, List.getElem_cons_succ, List.getElem_cons_zero, List.setIfInBounds_toArray, List.set_cons_zero, List.set_cons_succ]
                clear hb40 hU21 hV21 hH21
                refine wpAnyH_ready (rs := [5]) (by kernel_rfl) (by simp) ?_
                refine AllReadyH.cons rfl (fun K hK => ?_) AllReadyH.nil
                · rw [if_pos (by rfl)]
                  go_simp
                  refine (hnd _ (hKq _ hH40.1)).mono ?_
                  rintro e W41 ⟨rfl, hb41⟩
                  rw [HX2.out]
                  have hU41 := hU40.below hb41 hU40.lt; have hV41 := hV40.below hb41 hV40.lt
                  refine hK.out _ _ ⟨hH40.1.trans (hb41.mono (by have := hH40.1.size; omega)), range_below hH40.2 hb41 (by have := hH40.1.size; omega)⟩ (fun hH41 => ?_)
                  clear hK K
                  try simp only [Act.put, List.getElem_toArray, List.getElem_cons_succ, List.getElem_cons_zero, List.setIfInBounds_toArray, List.set_cons_zero, List.set_cons_succ]
                  clear hb41 hU40 hV40 hH40
                  refine wpAnyH_ready (rs := [7]) (by kernel_rfl) (by simp) ?_
                  refine AllReadyH.cons rfl (fun K hK => ?_) AllReadyH.nil
                  · rw [if_pos (by rfl)]
                    refine wp_store_row 24 (.tmp 10) (.tmp 87) rfl (A + 1) ly.toArray rfl rfl 24 _ hU41 ly_HI.out (lra_HS.out.symm.trans ly_HS.out) ly_HO.out ?_
                    refine hK.out _ _ ⟨below_setRow hH41.1 (by omega) _, rangeAt_other hH41.2 _ (by omega)⟩ (fun hH42 => ?_)
                    clear hK K
                    try simp only [Act.put, List.getElem_toArray, List.getElem_cons_succ, List.getElem_cons_zero, List.setIfInBounds_toArray, List.set_cons_zero, List.set_cons_succ]
                    have hU42 := hU41.setRow ly.toArray; have hV42 := hV41.setRow_other (A + 1) ly.toArray (by omega)
                    change Arr (W41.setRow (A + 1) ly.toArray) (A + 1) 24 ly at hU42
                    change wpAnyH _ _ _ _ _ _ _ _ (W41.setRow (A + 1) ly.toArray)
                    change Below (A + 1) w3 (W41.setRow (A + 1) ly.toArray) ∧ (W41.setRow (A + 1) ly.toArray).rangeAt gl 0 ld at hH42
                    clear hU41 hV41 hH41
                    generalize W41.setRow (A + 1) ly.toArray = W42 at *
                    refine wpAnyH_ready (rs := [8]) (by kernel_rfl) (by simp) ?_
                    refine AllReadyH.cons rfl (fun K hK => ?_) AllReadyH.nil
                    · rw [if_pos (by rfl)]
                      refine wp_store_row 24 (.tmp 11) (.tmp 90) rfl (A + 1 + 1) lx.toArray rfl rfl 24 _ hV42 lx_HI.out (lrb_HS.out.symm.trans lx_HS.out) lx_HO.out ?_
                      refine hK.out _ _ ⟨below_setRow hH42.1 (by omega) _, rangeAt_other hH42.2 _ (by omega)⟩ (fun hH43 => ?_)
                      clear hK K
                      try simp only [Act.put, List.getElem_toArray, List.getElem_cons_succ, List.getElem_cons_zero, List.setIfInBounds_toArray, List.set_cons_zero, List.set_cons_succ]
                      have hU43 := hU42.setRow_other (A + 1 + 1) lx.toArray (by omega); have hV43 := hV42.setRow lx.toArray
                      change Arr (W42.setRow (A + 1 + 1) lx.toArray) (A + 1 + 1) 24 lx at hV43
                      change wpAnyH _ _ _ _ _ _ _ _ (W42.setRow (A + 1 + 1) lx.toArray)
                      change Below (A + 1) w3 (W42.setRow (A + 1 + 1) lx.toArray) ∧ (W42.setRow (A + 1 + 1) lx.toArray).rangeAt gl 0 ld at hH43
                      clear hU42 hV42 hH42
                      generalize W42.setRow (A + 1 + 1) lx.toArray = W43 at *
                      refine wpAnyH_take (i := 9) (v := ?tv44) rfl (by kernel_rfl) (by kernel_rfl) (by kernel_rfl) (fun _ _ _ h => h) (Or.inl ⟨by rfl, ?ty44⟩) hH43 ?tr44
                      case ty44 => intro wq hq; go_simp; with_reducible rfl
                      try simp only [Act.put, List.getElem_toArray, List.getElem_cons_succ, List.getElem_cons_zero, List.setIfInBounds_toArray, List.set_cons_zero, List.set_cons_succ]
                      refine wpAnyH_done (by kernel_rfl) ?_ _
                      simp only [List.getElem_toArray, List.getElem_cons_succ, List.getElem_cons_zero, Exit.then, Act.put, List.setIfInBounds_toArray, List.set_cons_zero, List.set_cons_succ]
                      go_at_K
                      have hfin := tB.trans (hH43.1.mono (by omega))
                      go_wp2_with fail
                      exact bodyPost_ret (v := .tuple #[.agg ly.toArray, .agg lx.toArray, .bool ok]) (results_rrt rfl _ _ (A + 1) (A + 1 + 1) 24 _ _ _ _ _ _ rfl rfl rfl hU43 hV43 hu.out rfl ly_HI.out lx_HI.out) rfl ⟨by simp only [HX1.out, HX2.out], by (try rw [hAe]); exact hfin⟩
end Go.Proofs.YteehpfccegnjjaaDoor
