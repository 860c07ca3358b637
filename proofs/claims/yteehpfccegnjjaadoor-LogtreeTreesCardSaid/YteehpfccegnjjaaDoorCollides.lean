/-
  The walk of the law LogtreeCollides.
-/
import Derived.Test.YteehpfccegnjjaaDoorSpoil
import Derived.Test.YteehpfccegnjjaaDoorFrom
import Derived.Deep.Cut
namespace Go.Proofs.YteehpfccegnjjaaDoor
open Go Go.RowKit
theorem place40 : placesOf Tryd.prog 40 = some (some 35, some [(0, 32), (32, 1), (33, 1), (34, 1)]) := by kernel_rfl
theorem place52 : placesOf Tryd.prog 52 = some (some 33, some [(0, 32), (32, 1)]) := by kernel_rfl
theorem built_claim (la : List Value) (hl : la.length = 32) (i n : Int) (a : Option Addr) (m c : Nat) :
    Tryd.prog.built 40 [(0, .agg la.toArray), (1, .int .i64 i), (2, .int .i64 n), (3, .slice a m c)] = some (la ++ [Value.int .i64 i, Value.int .i64 n, Value.slice a m c]).toArray := by
  have := built_mixed (P := Tryd.prog) 40 35 _ place40 [.agg la.toArray, .int .i64 i, .int .i64 n, .slice a m c] (fun j v hj => by
    rcases j with _ | _ | _ | _ | j <;> simp at hj <;> subst hj <;> simp [Value.cells, hl]) (by simp [Value.cells, hl])
  simpa [Value.cells] using this
theorem built_proof (la : List Value) (hl : la.length = 32) (a : Option Addr) (m c : Nat) :
    Tryd.prog.built 52 [(0, .agg la.toArray), (1, .slice a m c)] = some (la ++ [Value.slice a m c]).toArray := by
  have := built_mixed (P := Tryd.prog) 52 33 _ place52 [.agg la.toArray, .slice a m c] (fun j v hj => by
    rcases j with _ | _ | j <;> simp at hj <;> subst hj <;> simp [Value.cells, hl]) (by simp [Value.cells, hl])
  simpa [Value.cells] using this
def z40 : List Value := List.replicate 32 (V8 0) ++ [Value.int .i64 0, Value.int .i64 0, Value.slice none 0 0]
theorem zero40 : (Tryd.prog.info? 40).map (fun i => (i.size, i.zero.map (·.cells))) = some (35, some z40.toArray) := by kernel_rfl
theorem run_buildSlice0 {P : Program} (w : World) (t e : TypeId) (hu : P.underlying t = some (.slice e)) (hI : I32 P e) :
    (Instr.buildSlice t 0 #[]).run P w = .ok (.slice (some ⟨w.heap.size, 0, none⟩) 0 0) (w.alloc (.cells #[] e)) := by
  obtain ⟨i, z, hi, hz, _⟩ := hI
  have h0 : ∀ f : Nat → Value, Array.map f (Array.range 0) = #[] := fun f => Array.eq_empty_of_size_eq_zero (by simp)
  simp [Instr.buildSlice, run_underlying hu, sizeOf, typeInfo, hi, Instr.fill, newRow, h0]
theorem own_empty (w : World) (base g : Nat) (e : TypeId) (h : Fresh g (.cells #[] e) w) (hb : base ≤ g) : Own w base e 32 (.slice (some ⟨g, 0, none⟩) 0 0) 0 [] :=
  ⟨rfl, .inr ⟨g, 0, #[], (0, 0), rfl, hb, h.2, rfl, Nat.le_refl _, Nat.zero_le _, .inl (Nat.le_refl _), rfl⟩⟩
/-- What the copy of the claim leaves. -/
def Copied (wB : World) (T E : TypeId) (la : List Value) (i n : Int) (m : Nat) (ds : List (List UInt8)) (v7 : Value) (w' : World) : Prop :=
  ∃ g a c, v7 = .pointer (some ⟨g, 0, none⟩) ∧ Arr w' g T (la ++ [Value.int .i64 i, Value.int .i64 n, Value.slice a m c]) ∧ Own w' wB.heap.size E 32 (.slice a m c) m (flat ds) ∧ (Value.slice a m c).ownBlock ≠ some g ∧ wB.heap.size ≤ g ∧ Below wB.heap.size wB w'
theorem copied_fin {wB w wt : World} {T E : TypeId} {la : List Value} {i n : Int} {m g c : Nat} {a : Option Addr} {ds : List (List UInt8)} {z : List Value} (hw : Below wB.heap.size wB w) (hO : Own w wB.heap.size E 32 (.slice a m c) m (flat ds)) (hA : Arr w g T z)
    (hne : (Value.slice a m c).ownBlock ≠ some g) (hg : wB.heap.size ≤ g) (hbt : Below (w.setRow g (la ++ [Value.int .i64 i, Value.int .i64 n, Value.slice a m c]).toArray).heap.size (w.setRow g (la ++ [Value.int .i64 i, Value.int .i64 n, Value.slice a m c]).toArray) wt) :
    Copied wB T E la i n m ds (.pointer (some ⟨g, 0, none⟩)) wt := by
  have hs : (w.setRow g (la ++ [Value.int .i64 i, .int .i64 n, .slice a m c]).toArray).heap.size = w.heap.size := by simp [World.setRow]
  have h1 := hA.setRow (la ++ [Value.int .i64 i, Value.int .i64 n, Value.slice a m c]).toArray
  refine ⟨g, a, c, rfl, by simpa using h1.below hbt h1.lt, ?_, hne, hg, (below_setRow hw hg _).trans (hbt.mono (by rw [hs]; exact hw.size))⟩
  refine Own.below (w := w.setRow g (la ++ [Value.int .i64 i, Value.int .i64 n, Value.slice a m c]).toArray) ?_ hbt (Nat.le_refl _)
  exact hO.kept fun k hk => Go.setRow_other w g k _ (fun e => hne (by rw [hk, e]))
theorem Own.frozen {w : World} {base : Nat} {e : TypeId} {sz : Nat} {n cap g o : Nat} {xs : List Value} (h : Own w base e sz (.slice (some ⟨g, o, none⟩) n cap) n xs) (j : Nat) (hj : j < xs.length) : w.frozen? ⟨g, j, none⟩ = false := by
  rcases h.2 with ⟨h0, _⟩ | ⟨g', cap', cur, fr, hv, hb, hg, hc, hn, hm, hf, ht⟩
  · cases h0
  · cases hv
    refine frozen_at w g j cur e fr hg hf ?_
    have := h.1
    have hle : n * sz ≤ cap * sz := Nat.mul_le_mul_right _ hn
    omega
/-- The two claims that the law holds, in their blocks. -/
structure CL (w0 : World) (A g : Nat) (ca : List Value) (i n : Int) (va : Value) (cb : List Value) (vb : Value) : Prop where
  r0 : w0.rangeAt A 0 ca
  c0 : w0.cell? ⟨A, 32, none⟩ = some (.int .i64 i)
  c1 : w0.cell? ⟨A, 33, none⟩ = some (.int .i64 n)
  c2 : w0.cell? ⟨A, 34, none⟩ = some va
  r1 : w0.rangeAt g 0 cb
  e0 : w0.cell? ⟨g, 32, none⟩ = some (.int .i64 i)
  e1 : w0.cell? ⟨g, 33, none⟩ = some (.int .i64 n)
  e2 : w0.cell? ⟨g, 34, none⟩ = some vb
  lt : A < w0.heap.size
  gt : g < w0.heap.size
theorem CL.below {w0 w1 : World} {A g : Nat} {ca cb : List Value} {i n : Int} {va vb : Value} (h : CL w0 A g ca i n va cb vb) (hb : Below w0.heap.size w0 w1) : CL w1 A g ca i n va cb vb :=
  ⟨range_below h.r0 hb h.lt, (hb.cell (p := ⟨A, 32, none⟩) h.lt).trans h.c0, (hb.cell (p := ⟨A, 33, none⟩) h.lt).trans h.c1, (hb.cell (p := ⟨A, 34, none⟩) h.lt).trans h.c2,
   range_below h.r1 hb h.gt, (hb.cell (p := ⟨g, 32, none⟩) h.gt).trans h.e0, (hb.cell (p := ⟨g, 33, none⟩) h.gt).trans h.e1, (hb.cell (p := ⟨g, 34, none⟩) h.gt).trans h.e2, Nat.lt_of_lt_of_le h.lt hb.size, Nat.lt_of_lt_of_le h.gt hb.size⟩
theorem CL.of (w1 : World) {w0 : World} {A g : Nat} {T : TypeId} {ca cb : List Value} {i n : Int} {va vb : Value} (hb : Below w1.heap.size w1 w0) (r0 : w1.rangeAt A 0 ca) (c0 : w1.cell? ⟨A, 32, none⟩ = some (.int .i64 i)) (c1 : w1.cell? ⟨A, 33, none⟩ = some (.int .i64 n))
    (c2 : w1.cell? ⟨A, 34, none⟩ = some va) (hA : A < w1.heap.size) (hg : Arr w0 g T (cb ++ [Value.int .i64 i, Value.int .i64 n, vb])) (hl : cb.length = 32) : CL w0 A g ca i n va cb vb := by
  have e32 := hg.cell 32; have e33 := hg.cell 33; have e34 := hg.cell 34
  rw [List.getElem?_append_right (by omega), hl] at e32 e33 e34
  exact ⟨range_below r0 hb hA, (hb.cell (p := ⟨A, 32, none⟩) hA).trans c0, (hb.cell (p := ⟨A, 33, none⟩) hA).trans c1, (hb.cell (p := ⟨A, 34, none⟩) hA).trans c2, range_pre hg.range, e32, e33, e34, Nat.lt_of_lt_of_le hA hb.size, hg.lt⟩
theorem Stable.made {D R : World → Prop} (h : Stable D) (hR : Stable R) : Stable (fun w => D w ∧ R w) := fun w w' h1 hb => ⟨h w w' h1.1 hb, hR w w' h1.2 hb⟩
theorem stabDigs (ds : List (List UInt8)) (v : Value) : Stable (fun w => Digs w v ds) := fun _ _ h hb => h.below hb (Nat.le_refl _)
theorem guardR : Tryd.prog.eqGuardType Tryd.prog.depth 23 = false := by kernel_rfl
theorem bs_inj {a b : List UInt8} (h : bs a = bs b) : a = b := by
  have := congrArg (fun x : ByteArray => x.data.toList) h
  simpa [bs] using this
theorem quiet_sneq {P : Program} {C : World → Prop} {o : Oper} {a : Act} {w : World} (t : TypeId) (x y : Operand) (u : TypeId) (ho : o.op = .binOp .neq t x y u) (s r : ByteArray) (hx : a.eval x = .string s) (hy : a.eval y = .string r) (hne : ¬ s = r) :
    o.quietAt P a C w (.bool true) := by
  unfold Oper.quietAt execOp
  have h2 : ¬ s.toList = r.toList := fun h => hne (by
    rw [ByteArray.toList_eq, ByteArray.toList_eq] at h
    cases s; cases r
    congr 1
    exact Array.toList_inj.1 h)
  simp [ho, hx, hy, binOp, eqGuard, Op.stringOp, h2, Oper.quietUpon]
theorem u8_of_wf {z : Int} (h : (Lit.int .u8 z).wf = true) : ∃ x : UInt8, z = x.toNat := by
  simp [Lit.wf, IntKind.min, IntKind.max, IntKind.signed, IntKind.bits] at h
  exact ⟨UInt8.ofNat z.toNat, by simp; omega⟩
theorem run_bs0 {P : Program} {a : Act} {w : World} {o : Oper} (t e : TypeId) (ho : o.op = .buildSlice t 0 #[]) (hu : P.underlying t = some (.slice e)) (hI : I32 P e) :
    (execOp a.eval o).run P w = .ok (.value (.slice (some ⟨w.heap.size, 0, none⟩) 0 0)) (w.alloc (.cells #[] e)) := by
  unfold execOp
  have := run_buildSlice0 w t e hu hI
  simp only [ho, Sem.run_bind, Array.map_empty, this, Result.andThen_ok]
  rfl
theorem run_al {P : Program} {a : Act} {w : World} {o : Oper} (T : TypeId) (ho : o.op = .alloc T) (n : Nat) (cells : Array Value) (hz : (P.info? T).map (fun i => (i.size, i.zero.map (·.cells))) = some (n, some cells)) :
    (execOp a.eval o).run P w = .ok (.value (.pointer (some ⟨w.heap.size, 0, none⟩))) (w.alloc (.cells cells T)) := by
  cases hi : P.info? T with
  | none => simp [hi] at hz
  | some i =>
    simp only [hi, Option.map_some, Option.some.injEq, Prod.mk.injEq] at hz
    obtain ⟨_, hz⟩ := hz
    cases hq : i.zero with
    | none => simp [hq] at hz
    | some z =>
      simp only [hq, Option.map_some, Option.some.injEq] at hz
      unfold execOp
      simp [ho, Instr.alloc, zeroValue, typeInfo, hi, hq, newVar, newRow, hz]
theorem claim_cells (la : List Value) (hl : la.length = 32) (ho : ∀ v ∈ la, v.oneCell' = true) (i n : Int) (a : Option Addr) (m c : Nat) :
    (la ++ [Value.int .i64 i, Value.int .i64 n, Value.slice a m c]).toArray.size = 35 ∧ (la ++ [Value.int .i64 i, Value.int .i64 n, Value.slice a m c]).toArray.all (·.oneCell') = true := by
  refine ⟨by simp [hl], ?_⟩
  rw [List.all_toArray, List.all_eq_true]
  intro v hv
  simp only [List.mem_append, List.mem_cons, List.not_mem_nil, or_false] at hv
  rcases hv with hv | rfl | rfl | rfl
  · exact ho v hv
  · rfl
  · rfl
  · rfl
theorem size40 : (Tryd.prog.info? 40).map (·.size) = some 35 := by kernel_rfl
theorem z40_size : z40.toArray.size = 35 := by kernel_rfl
set_option maxRecDepth 100000 in
set_option linter.unusedSimpArgs false in
set_option maxHeartbeats 2000000 in
theorem coll_law (leaf : List UInt8) (i n : Int) (u : Value) (path : List (List UInt8)) (pl by_ : Int) (w : World) (hl : leaf.length = 32) (hD : Digs w u path) (hpl : (Lit.int .u8 pl).wf = true) (hby : (Lit.int .u8 by_).wf = true) (hK : KT w) :
    Calls Tryd.prog 6 #[.agg (claimL leaf i n u).toArray, .int .u8 pl, .int .u8 by_] w fun e w' => e = .returned (.bool true) ∧ Below w.heap.size w w' := by
  obtain ⟨pb, rfl⟩ : ∃ x : UInt8, pl = x.toNat := u8_of_wf hpl
  obtain ⟨bb, rfl⟩ : ∃ x : UInt8, by_ = x.toNat := u8_of_wf hby
  clear hpl hby
  obtain ⟨la, hA, hlm, hal, hao⟩ := v8_list leaf hl
  obtain ⟨av, cv, rfl⟩ := hD.shape
  have hcl : claimL leaf i n (.slice av path.length cv) = la ++ [Value.int .i64 i, Value.int .i64 n, .slice av path.length cv] := by rw [hlm]
  rw [hcl]
  have HD := Lib.hid hD
  have Hk := Lib.hid hK
  have hAA := Arr.new w 40 (la ++ [Value.int .i64 i, Value.int .i64 n, .slice av path.length cv])
  have hr0 : (w.alloc (.cells (la ++ [Value.int .i64 i, Value.int .i64 n, .slice av path.length cv]).toArray 40)).rangeAt w.heap.size 0 la := range_pre hAA.range
  have hc32 := hAA.cell 32; have hc33 := hAA.cell 33; have hc34 := hAA.cell 34
  rw [List.getElem?_append_right (by omega), hal] at hc32 hc33 hc34
  simp only [Nat.sub_self, List.getElem?_cons_zero, show 33 - 32 = 1 from rfl, show 34 - 32 = 2 from rfl, List.getElem?_cons_succ] at hc32 hc33 hc34
  have hlt := hAA.lt
  have hW0 := below_alloc w (.cells (la ++ [Value.int .i64 i, Value.int .i64 n, .slice av path.length cv]).toArray 40)
  clear hAA hcl hD hK
  have HLM := Lib.hid hlm
  clear hlm
  generalize hlc : la ++ [Value.int .i64 i, Value.int .i64 n, .slice av path.length cv] = lc at *
  have HR0 := Lib.hid hr0; have H32 := Lib.hid hc32; have H33 := Lib.hid hc33; have H34 := Lib.hid hc34; have HW0 := Lib.hid hW0; have HLT := Lib.hid hlt
  clear hr0 hc32 hc33 hc34 hW0 hlt hlc
  have hu := Lib.hid Tryd.underlying24
  have huR := Lib.hid Tryd.underlying23
  have HLI := Lib.hid (show (Tryd.prog.info? 23).map (·.size) = some la.length by rw [hal]; exact infR32)
  have HAO := Lib.hid hao; have HAL := Lib.hid hal; have HA := Lib.hid hA; have HL := Lib.hid hl
  clear hal hA hao hl
  generalize hm : path.length = m at *
  have HM := Lib.hid hm
  clear hm
  go_enter Tryd.func6, Tryd.ntmps6
  go_upto_region 1 with (fail)
  change Code.wp _ _ _ _ (w.alloc (.cells lc.toArray 40))
  generalize w.alloc (.cells lc.toArray 40) = w0 at *
  have hr0 := HR0.out; have hc32 := H32.out; have hc33 := H33.out; have hc34 := H34.out; have hW0 := HW0.out; have hAl := HLT.out
  clear HR0 H32 H33 H34 HW0 HLT
  have HD0 := Lib.hid (HD.out.below hW0 (Nat.le_refl _)); have Hk0 := Lib.hid (Hk.out.below hW0 (Nat.le_refl _))
  clear HD Hk
  generalize hAe : w.heap.size = A at *
  by_cases h30 : m ≤ 30
  · have hd30 : decide ((30 : Int) < (m : Int)) = false := decide_eq_false (by omega)
    refine wp_region_listed 7 [] (Below w0.heap.size w0) (by decide) (Stable.below w0) (Below.refl _ _) ?_
    simp only [List.range, List.range.loop, opsOf, List.getElem?_cons_succ, List.getElem?_cons_zero, List.drop_succ_cons, List.drop_zero]
    refine wpL_val ?v2 rfl (by rfl) (fun wq hq => ?y2) ?z2
    case y2 => go_simp; exact known_any _ (Hk0.out.below hq (by omega))
    try simp only [Act.put, List.setIfInBounds_toArray, List.set_cons_zero, List.set_cons_succ]
    refine wpL_val ?v3 rfl (by rfl) (fun wq hq => ?y3) ?z3
    case y3 => go_simp; with_reducible rfl
    try simp only [Act.put, List.setIfInBounds_toArray, List.set_cons_zero, List.set_cons_succ]
    refine wpL_val ?v4 rfl (by rfl) (fun wq hq => ?y4) ?z4
    case y4 => go_simp; with_reducible rfl
    try simp only [Act.put, List.setIfInBounds_toArray, List.set_cons_zero, List.set_cons_succ]
    refine wpL_val ?v5 rfl (by rfl) (fun wq hq => ?y5) ?z5
    case y5 => go_simp; with_reducible rfl
    try simp only [Act.put, List.setIfInBounds_toArray, List.set_cons_zero, List.set_cons_succ]
    refine wpL_val ?v6 rfl (by rfl) (fun wq hq => ?y6) ?z6
    case y6 => have c34 := (hq.cell (p := ⟨A, 34, none⟩) hAl).trans hc34; go_simp; with_reducible rfl
    try simp only [Act.put, List.setIfInBounds_toArray, List.set_cons_zero, List.set_cons_succ]
    refine wpL_val ?v7 rfl (by rfl) (fun wq hq => ?y7) ?z7
    case y7 => go_simp; with_reducible rfl
    try simp only [Act.put, List.setIfInBounds_toArray, List.set_cons_zero, List.set_cons_succ]
    refine wpL_val ?v8 rfl (by rfl) (fun wq hq => ?y8) ?z8
    case y8 => go_simp; with_reducible rfl
    try simp only [Act.put, List.setIfInBounds_toArray, List.set_cons_zero, List.set_cons_succ]
    refine wpL_nil ?_
    intro w1 hw1
    have r1 := Lib.hid (range_below hr0 hw1 hAl)
    have d32 := Lib.hid ((hw1.cell (p := ⟨A, 32, none⟩) hAl).trans hc32); have d33 := Lib.hid ((hw1.cell (p := ⟨A, 33, none⟩) hAl).trans hc33); have d34 := Lib.hid ((hw1.cell (p := ⟨A, 34, none⟩) hAl).trans hc34)
    have HD1 := Lib.hid (HD0.out.below hw1 (Nat.le_refl _)); have Hk1 := Lib.hid (Hk0.out.below hw1 (Nat.le_refl _))
    have hB1 : Below A w w1 := hW0.trans (hw1.mono (by omega))
    have hA1 : A < w1.heap.size := Nat.lt_of_lt_of_le hAl hw1.size
    clear hr0 hc32 hc33 hc34 HD0 Hk0 hw1 hW0 hAl hd30
    go_upto_region 3 with (fail)
    go_cut [7] from 16 (fun v7 w' => Copied w1 40 23 la i n m path v7 w')
    case first =>
      have hdl : ∀ wq, Below w1.heap.size w1 wq → Digs wq (.slice av m cv) path := fun wq hq => HD1.out.below hq (Nat.le_refl _)
      have hcl := fun a c => claim_cells la HAL.out HAO.out i n a m c
      have HDL := Lib.hid hdl; have HCL := Lib.hid hcl
      clear hdl hcl
      refine wp_region_tree (Below w1.heap.size w1) (Stable.below w1) (Below.refl _ _).drew (by kernel_rfl) ?_
      refine wpB_list [] [0, 1, 2, 3, 4, 5, 7, 8] 5 rfl (by kernel_rfl) ?_
      simp only [opsOf, List.getElem?_cons_succ, List.getElem?_cons_zero, List.drop_succ_cons, List.drop_zero]
      refine wpL_val ?v12 rfl (by rfl) (fun wq hq => ?y12) ?z12
      case y12 => go_simp; with_reducible rfl
      try simp only [Act.put, List.setIfInBounds_toArray, List.set_cons_zero, List.set_cons_succ]
      refine wpL_val (.agg la.toArray) rfl (by rfl) (fun wq hq => quiet_ld 23 _ rfl _ _ rfl la _ (range_below r1.out hq hA1) huR.out rfl HLI.out) ?_
      try simp only [Act.put, List.setIfInBounds_toArray, List.set_cons_zero, List.set_cons_succ]
      refine wpL_val ?v14 rfl (by rfl) (fun wq hq => ?y14) ?z14
      case y14 => go_simp; with_reducible rfl
      try simp only [Act.put, List.setIfInBounds_toArray, List.set_cons_zero, List.set_cons_succ]
      refine wpL_val ?v15 rfl (by rfl) (fun wq hq => ?y15) ?z15
      case y15 => have c := (hq.cell (p := ⟨A, 32, none⟩) hA1).trans d32.out; go_simp; with_reducible rfl
      try simp only [Act.put, List.setIfInBounds_toArray, List.set_cons_zero, List.set_cons_succ]
      refine wpL_val ?v16 rfl (by rfl) (fun wq hq => ?y16) ?z16
      case y16 => go_simp; with_reducible rfl
      try simp only [Act.put, List.setIfInBounds_toArray, List.set_cons_zero, List.set_cons_succ]
      refine wpL_val ?v17 rfl (by rfl) (fun wq hq => ?y17) ?z17
      case y17 => have c := (hq.cell (p := ⟨A, 33, none⟩) hA1).trans d33.out; go_simp; with_reducible rfl
      try simp only [Act.put, List.setIfInBounds_toArray, List.set_cons_zero, List.set_cons_succ]
      refine wpL_val ?v18 rfl (by rfl) (fun wq hq => ?y18) ?z18
      case y18 => go_simp; with_reducible rfl
      try simp only [Act.put, List.setIfInBounds_toArray, List.set_cons_zero, List.set_cons_succ]
      refine wpL_val ?v19 rfl (by rfl) (fun wq hq => ?y19) ?z19
      case y19 => have c := (hq.cell (p := ⟨A, 34, none⟩) hA1).trans d34.out; go_simp; with_reducible rfl
      try simp only [Act.put, List.setIfInBounds_toArray, List.set_cons_zero, List.set_cons_succ]
      refine wpL_nil ?_
      refine wpB_two 6 11 4 (by kernel_rfl) ?_ ?_
      · simp only [opsOf, List.getElem?_cons_succ, List.getElem?_cons_zero, List.drop_succ_cons, List.drop_zero]
        refine wpL_new (fun g => .slice (some ⟨g, 0, none⟩) 0 0) (.cells #[] 23) rfl (by rfl) (Stable.below w1) (fun _ h => h) (fun wq hq => ?y22) (fun g0 hg0 => ?_)
        case y22 => exact run_bs0 _ _ rfl Tryd.underlying22 i32R
        try simp only [Act.put, List.setIfInBounds_toArray, List.set_cons_zero, List.set_cons_succ]
        have G0 : w1.heap.size ≤ g0 := by obtain ⟨wq, hq, rfl⟩ := hg0; exact hq.size
        refine wpL_nil ?_
        refine wpB_two 9 11 3 (by kernel_rfl) ?_ ?_
        · simp only [opsOf, List.getElem?_cons_succ, List.getElem?_cons_zero, List.drop_succ_cons, List.drop_zero]
          refine wpL_appR rfl (by rfl) (.tmp 31) (.tmp 33) 22 22 rfl w1.heap.size 23 32 _ _ _ _ rfl rfl (Stable.below w1) (fun wq wq' hq hg => hq.grown hg hq.size (fun k hk => by cases hk; exact G0)) (fun wq hq => hq.1) (fun wq hq => run_append_digs wq w1.heap.size _ _ _ i32R Tryd.underlying22 _ 0 [] (own_empty wq _ g0 _ hq.2 G0) _ path (HDL.out wq hq.1) (by rw [HM.out]; omega) hq.1.size) ?_
          intro v' w2 wq hq hA2
          try simp only [Act.put, List.setIfInBounds_toArray, List.set_cons_zero, List.set_cons_succ]
          rw [HM.out, Nat.zero_add, List.nil_append] at hA2
          have hB2 : Below w1.heap.size w1 w2 := hq.1.grown hA2.2.1 hq.1.size (fun k hk => by cases hk; exact G0)
          have hO2 := hA2.1
          clear hA2 hq
          obtain ⟨a2, c2, rfl⟩ := hO2.shape
          refine wpL_nil ?_
          refine wpB_list [11, 12] [10, 11, 12] 0 rfl (by kernel_rfl) ?_
          simp only [opsOf, List.getElem?_cons_succ, List.getElem?_cons_zero, List.drop_succ_cons, List.drop_zero]
          refine wpL_val (.agg (la ++ [Value.int .i64 i, Value.int .i64 n, Value.slice a2 m c2]).toArray) rfl (by rfl) (fun wq hq => quiet_build4 40 (.tmp 26) (.tmp 28) (.tmp 30) (.tmp 34) rfl _ _ _ _ rfl rfl rfl rfl _ (built_claim la HAL.out i n a2 m c2)) ?_
          try simp only [Act.put, List.setIfInBounds_toArray, List.set_cons_zero, List.set_cons_succ]
          refine wpL_new (fun g => .pointer (some ⟨g, 0, none⟩)) (.cells z40.toArray 40) rfl (by rfl) (Stable.below w2) (fun _ h => hB2.trans (h.mono hB2.size)) (fun wq hq => run_al _ rfl 35 _ zero40) (fun g7 hg7 => ?_)
          try simp only [Act.put, List.setIfInBounds_toArray, List.set_cons_zero, List.set_cons_succ]
          have G7 : w2.heap.size ≤ g7 := by obtain ⟨wq, hq, rfl⟩ := hg7; exact hq.size
          refine wpL_store rfl (by rfl) 40 (.tmp 7) (.tmp 35) rfl g7 (la ++ [Value.int .i64 i, Value.int .i64 n, Value.slice a2 m c2]).toArray rfl rfl 40 z40.toArray (fun wq hq => hq.2.2) (by rw [(HCL.out a2 c2).1]; exact size40) (by rw [(HCL.out a2 c2).1]; exact z40_size) (HCL.out a2 c2).2 (Stable.below w1) (fun wq hq => below_setRow (hB2.trans (hq.1.mono hB2.size)) (Nat.le_trans hB2.size G7) _) ?_
          try simp only [Act.put, List.setIfInBounds_toArray, List.set_cons_zero, List.set_cons_succ]
          refine wpL_nil ?_
          refine wpB_end (by kernel_rfl) ?_
          intro wt hwt
          obtain ⟨wz, ⟨hz1, hz2⟩, hzt⟩ := hwt
          have hfin := copied_fin (z := z40) (hB2.trans (hz1.mono hB2.size)) (hO2.below hz1 (Nat.le_refl _)) hz2.2 (fun e => by have := (hO2.lt _ e).2; omega) (Nat.le_trans hB2.size G7) hzt
          go_wp2_with fail
          go_meet
          case rel => exact hfin
        · simp only [opsOf, List.getElem?_cons_succ, List.getElem?_cons_zero, List.drop_succ_cons, List.drop_zero]
          refine wpL_new (fun g => .pointer (some ⟨g, 0, none⟩)) (.cells z40.toArray 40) rfl (by rfl) (Stable.fresh (Stable.below w1) _ _) (fun _ h => h.1) (fun wq hq => ?y29) (fun g1 hg1 => ?_)
          case y29 => exact run_al _ rfl 35 _ zero40
          try simp only [Act.put, List.setIfInBounds_toArray, List.set_cons_zero, List.set_cons_succ]
          have GA : w1.heap.size ≤ g1 ∧ g0 < g1 := by obtain ⟨wq, hq, rfl⟩ := hg1; exact ⟨hq.1.size, hq.2.1⟩
          obtain ⟨GA, GN⟩ := GA
          have GS := G0
          refine wpL_nil ?_
          refine wpB_list [9, 12] [9, 10, 12] 0 rfl (by kernel_rfl) ?_
          simp only [opsOf, List.getElem?_cons_succ, List.getElem?_cons_zero, List.drop_succ_cons, List.drop_zero]
          refine wpL_appR rfl (by rfl) (.tmp 31) (.tmp 33) 22 22 rfl w1.heap.size 23 32 _ _ _ _ rfl rfl (Stable.below w1) (fun wq wq' hq hg => hq.grown hg hq.size (fun k hk => by cases hk; exact GS)) (fun wq hq => hq.1.1) (fun wq hq => run_append_digs wq w1.heap.size _ _ _ i32R Tryd.underlying22 _ 0 [] (own_empty wq _ g0 _ hq.1.2 GS) _ path (HDL.out wq hq.1.1) (by rw [HM.out]; omega) hq.1.1.size) ?_
          intro v' w2 wq hq hA2
          try simp only [Act.put, List.setIfInBounds_toArray, List.set_cons_zero, List.set_cons_succ]
          rw [HM.out, Nat.zero_add, List.nil_append] at hA2
          have hB2 : Below w1.heap.size w1 w2 := hq.1.1.grown hA2.2.1 hq.1.1.size (fun k hk => by cases hk; exact GS)
          have hO2 := hA2.1
          have hZ2 : Arr w2 g1 40 z40 := (hA2.2.1.block g1 hq.2.1 (fun e => by have e' : some g1 = some g0 := e; simp only [Option.some.injEq] at e'; omega)).trans hq.2.2
          have hne2 : v'.ownBlock ≠ some g1 := fun e => by
            have hlt := hq.2.1
            rcases hA2.2.2 with h | ⟨k, h, hk⟩
            · rw [e] at h; have e' : some g1 = some g0 := h; simp only [Option.some.injEq] at e'; omega
            · rw [e] at h; simp only [Option.some.injEq] at h; omega
          clear hA2 hq
          obtain ⟨a2, c2, rfl⟩ := hO2.shape
          refine wpL_val (.agg (la ++ [Value.int .i64 i, Value.int .i64 n, Value.slice a2 m c2]).toArray) rfl (by rfl) (fun wq hq => quiet_build4 40 (.tmp 26) (.tmp 28) (.tmp 30) (.tmp 34) rfl _ _ _ _ rfl rfl rfl rfl _ (built_claim la HAL.out i n a2 m c2)) ?_
          try simp only [Act.put, List.setIfInBounds_toArray, List.set_cons_zero, List.set_cons_succ]
          refine wpL_store rfl (by rfl) 40 (.tmp 7) (.tmp 35) rfl g1 (la ++ [Value.int .i64 i, Value.int .i64 n, Value.slice a2 m c2]).toArray rfl rfl 40 z40.toArray (fun wq hq => hZ2.below hq hZ2.lt) (by rw [(HCL.out a2 c2).1]; exact size40) (by rw [(HCL.out a2 c2).1]; exact z40_size) (HCL.out a2 c2).2 (Stable.below w1) (fun wq hq => below_setRow (hB2.trans (hq.mono hB2.size)) GA _) ?_
          try simp only [Act.put, List.setIfInBounds_toArray, List.set_cons_zero, List.set_cons_succ]
          refine wpL_nil ?_
          refine wpB_end (by kernel_rfl) ?_
          intro wt hwt
          obtain ⟨wz, hz1, hzt⟩ := hwt
          have hfin := copied_fin (z := z40) (hB2.trans (hz1.mono hB2.size)) (hO2.below hz1 (Nat.le_refl _)) (hZ2.below hz1 hZ2.lt) hne2 GA hzt
          go_wp2_with fail
          go_meet
          case rel => exact hfin
      · simp only [opsOf, List.getElem?_cons_succ, List.getElem?_cons_zero, List.drop_succ_cons, List.drop_zero]
        refine wpL_new (fun g => .pointer (some ⟨g, 0, none⟩)) (.cells z40.toArray 40) rfl (by rfl) (Stable.below w1) (fun _ h => h) (fun wq hq => ?y34) (fun g0 hg0 => ?_)
        case y34 => exact run_al _ rfl 35 _ zero40
        try simp only [Act.put, List.setIfInBounds_toArray, List.set_cons_zero, List.set_cons_succ]
        have GA : w1.heap.size ≤ g0 := by obtain ⟨wq, hq, rfl⟩ := hg0; exact hq.size
        refine wpL_nil ?_
        refine wpB_list [6, 9, 12] [6, 9, 10, 12] 0 rfl (by kernel_rfl) ?_
        simp only [opsOf, List.getElem?_cons_succ, List.getElem?_cons_zero, List.drop_succ_cons, List.drop_zero]
        refine wpL_new (fun g => .slice (some ⟨g, 0, none⟩) 0 0) (.cells #[] 23) rfl (by rfl) (Stable.fresh (Stable.below w1) _ _) (fun _ h => h.1) (fun wq hq => ?y37) (fun g1 hg1 => ?_)
        case y37 => exact run_bs0 _ _ rfl Tryd.underlying22 i32R
        try simp only [Act.put, List.setIfInBounds_toArray, List.set_cons_zero, List.set_cons_succ]
        have GS : w1.heap.size ≤ g1 ∧ g0 < g1 := by obtain ⟨wq, hq, rfl⟩ := hg1; exact ⟨hq.1.size, hq.2.1⟩
        obtain ⟨GS, GN⟩ := GS
        refine wpL_appR rfl (by rfl) (.tmp 31) (.tmp 33) 22 22 rfl w1.heap.size 23 32 _ _ _ _ rfl rfl (Stable.below w1) (fun wq wq' hq hg => hq.grown hg hq.size (fun k hk => by cases hk; exact GS)) (fun wq hq => hq.1.1) (fun wq hq => run_append_digs wq w1.heap.size _ _ _ i32R Tryd.underlying22 _ 0 [] (own_empty wq _ g1 _ hq.2 GS) _ path (HDL.out wq hq.1.1) (by rw [HM.out]; omega) hq.1.1.size) ?_
        intro v' w2 wq hq hA2
        try simp only [Act.put, List.setIfInBounds_toArray, List.set_cons_zero, List.set_cons_succ]
        rw [HM.out, Nat.zero_add, List.nil_append] at hA2
        have hB2 : Below w1.heap.size w1 w2 := hq.1.1.grown hA2.2.1 hq.1.1.size (fun k hk => by cases hk; exact GS)
        have hO2 := hA2.1
        have hZ2 : Arr w2 g0 40 z40 := (hA2.2.1.block g0 hq.1.2.1 (fun e => by have e' : some g0 = some g1 := e; simp only [Option.some.injEq] at e'; omega)).trans hq.1.2.2
        have hne2 : v'.ownBlock ≠ some g0 := fun e => by
          have hlt := hq.1.2.1
          rcases hA2.2.2 with h | ⟨k, h, hk⟩
          · rw [e] at h; have e' : some g0 = some g1 := h; simp only [Option.some.injEq] at e'; omega
          · rw [e] at h; simp only [Option.some.injEq] at h; omega
        clear hA2 hq
        obtain ⟨a2, c2, rfl⟩ := hO2.shape
        refine wpL_val (.agg (la ++ [Value.int .i64 i, Value.int .i64 n, Value.slice a2 m c2]).toArray) rfl (by rfl) (fun wq hq => quiet_build4 40 (.tmp 26) (.tmp 28) (.tmp 30) (.tmp 34) rfl _ _ _ _ rfl rfl rfl rfl _ (built_claim la HAL.out i n a2 m c2)) ?_
        try simp only [Act.put, List.setIfInBounds_toArray, List.set_cons_zero, List.set_cons_succ]
        refine wpL_store rfl (by rfl) 40 (.tmp 7) (.tmp 35) rfl g0 (la ++ [Value.int .i64 i, Value.int .i64 n, Value.slice a2 m c2]).toArray rfl rfl 40 z40.toArray (fun wq hq => hZ2.below hq hZ2.lt) (by rw [(HCL.out a2 c2).1]; exact size40) (by rw [(HCL.out a2 c2).1]; exact z40_size) (HCL.out a2 c2).2 (Stable.below w1) (fun wq hq => below_setRow (hB2.trans (hq.mono hB2.size)) GA _) ?_
        try simp only [Act.put, List.setIfInBounds_toArray, List.set_cons_zero, List.set_cons_succ]
        refine wpL_nil ?_
        refine wpB_end (by kernel_rfl) ?_
        intro wt hwt
        obtain ⟨wz, hz1, hzt⟩ := hwt
        have hfin := copied_fin (z := z40) (hB2.trans (hz1.mono hB2.size)) (hO2.below hz1 (Nat.le_refl _)) (hZ2.below hz1 hZ2.lt) hne2 GA hzt
        go_wp2_with fail
        go_meet
        case rel => exact hfin
    case rest =>
      obtain ⟨g, da, dc, rfl, hA7, hO7, hne7, hg7, hBc⟩ := hcut
      have e34 := hA7.cell 34
      rw [List.getElem?_append_right (by rw [HAL.out]; omega), HAL.out] at e34
      simp only [show 34 - 32 = 2 from rfl, List.getElem?_cons_succ, List.getElem?_cons_zero] at e34
      obtain ⟨k, hk, hkm⟩ : ∃ k : Nat, (wrap64 (pb.toNat : Int)).tmod (32 * (1 + (m : Int))) = (k : Int) ∧ k < 32 * (1 + m) :=
        ⟨pb.toNat % (32 * (1 + m)), by have hpb := pb.toNat_lt; rw [wrap64_nat _ (by omega)]; exact (Int.ofNat_tmod _ _).symm, Nat.mod_lt _ (by omega)⟩
      have HK := Lib.hid hk
      clear hk
      go_upto_region 5 with (fail)
      rw [HK.out]
      clear HK
      go_upto_if 45 with (fail)
      go_cut [] from 16 (fun w' => ∃ leaf2 p2, leaf2.length = 32 ∧ p2.length = m ∧ (∀ d ∈ p2, d.length = 32) ∧ (bb = 0 → leaf2 = leaf ∧ p2 = path) ∧ (bb ≠ 0 → ¬ (leaf = leaf2 ∧ path = p2)) ∧
        Arr w' g 40 (leaf2.map V8 ++ [Value.int .i64 i, Value.int .i64 n, Value.slice da m dc]) ∧ Own w' w1.heap.size 23 32 (.slice da m dc) m (flat p2) ∧ Below w1.heap.size w1 w')
      case first =>
        have hall := HD1.out.all
        by_cases hk32 : k < 32
        · have hki : (k : Int) < 32 := by omega
          have hdk : decide ((k : Int) < 32) = true := decide_eq_true hki
          have ck := hA7.cell k
          have fk := hA7.frozen k
          rw [List.getElem?_append_left (by rw [HAL.out]; omega), HLM.out, List.getElem?_map, List.getElem?_eq_getElem (by rw [HL.out]; omega), Option.map_some] at ck
          have hxx : leaf.getD k 0 = leaf[k]'(by rw [HL.out]; omega) := by rw [List.getD_eq_getElem?_getD, List.getElem?_eq_getElem (by rw [HL.out]; omega)]; rfl
          rw [← hxx] at ck
          clear hxx
          unfold V8 at ck
          have hx := b_xor (leaf.getD k 0) bb
          generalize hx0 : leaf.getD k 0 = x at *
          have HX0 := Lib.hid hx0
          clear hx0
          go_wp2_with fail
          go_meet
          case rel =>
            have hA8 := hA7.set k (V8 (x ^^^ bb))
            rw [List.set_append_left _ _ (by rw [HAL.out]; omega), HLM.out, ← HX0.out, ← spoil1_map, HX0.out] at hA8
            exact ⟨spoil1 leaf k bb, path, by rw [spoil1_length, HL.out], HM.out, hall, fun h => by rw [h, spoil1_zero]; exact ⟨rfl, rfl⟩, fun h he => spoil1_ne leaf k bb (by rw [HL.out]; exact hk32) h he.1.symm, hA8, hO7.setCell _ _ hne7, hBc.setCell hg7 _⟩
        · have hdk : decide ((k : Int) < 32) = false := decide_eq_false (by omega)
          obtain ⟨q, hq1⟩ : ∃ q, q = k / 32 - 1 := ⟨_, rfl⟩
          obtain ⟨r, hr1⟩ : ∃ r, r = k % 32 := ⟨_, rfl⟩
          have hqm : q < m := by omega
          have hr32 : r < 32 := by omega
          have hqi : (k : Int).tdiv 32 - 1 = (q : Int) := by rw [Int.tdiv_eq_ediv_of_nonneg (by omega)]; omega
          have hri : (k : Int).tmod 32 = (r : Int) := by rw [Int.tmod_eq_emod_of_nonneg (by omega)]; omega
          obtain ⟨gd, rfl, hgd⟩ : ∃ gd, da = some ⟨gd, 0, none⟩ ∧ gd < wc.heap.size := by
            rcases hO7.2 with ⟨h, _⟩ | ⟨gd, c2, cur, fr, hv, _, hh, _⟩
            · cases h; omega
            · cases hv; exact ⟨gd, rfl, (Array.getElem?_eq_some_iff.1 hh).1⟩
          have hlen := flat_len path hall
          have hjl : q * 32 + r < (flat path).length := by rw [hlen, HM.out]; omega
          have ck := hO7.cell (q * 32 + r) hjl
          have hd : (path.getD q []).length = 32 := getD_mem_32 path hall q (by rw [HM.out]; exact hqm)
          rw [flat_get path hall q r (by rw [HM.out]; exact hqm) hr32, List.getElem?_map, List.getElem?_eq_getElem (by rw [hd]; exact hr32), Option.map_some] at ck
          have hxx : (path.getD q []).getD r 0 = (path.getD q [])[r]'(by rw [hd]; exact hr32) := by rw [List.getD_eq_getElem?_getD, List.getElem?_eq_getElem (by rw [hd]; exact hr32)]; rfl
          rw [← hxx] at ck
          clear hxx
          unfold V8 at ck
          have fk : wc.frozen? ⟨gd, q * 32 + r, none⟩ = false := hO7.frozen (q * 32 + r) hjl
          have hx := b_xor ((path.getD q []).getD r 0) bb
          generalize hx0 : (path.getD q []).getD r 0 = x at *
          have HX0 := Lib.hid hx0
          have HALL := Lib.hid hall; have HO7 := Lib.hid hO7; have HA7 := Lib.hid hA7
          clear hx0 hall hO7 hA7 hlen hd hjl
          have hqi2 : (k : Int) / 32 - 1 = (q : Int) := by omega
          have hri2 : (k : Int) % 32 = (r : Int) := by omega
          have hw1 : IntKind.i64.wrap ((k : Int) / 32) = (k : Int) / 32 := by apply IntWalk.i64_in <;> omega
          have hw2 : IntKind.i64.wrap (q : Int) = q := by apply IntWalk.i64_in <;> omega
          have hgw : g < wc.heap.size := HA7.out.lt
          have hqmi : (q : Int) < m := by omega
          have hr32i : (r : Int) < 32 := by omega
          clear hq1 hr1 hdk hk32 hkm
          go_upto_region 7 with (fail)
          refine wp_region_class 14 [] [0, 1, 2, 3, 4, 5, 6, 7, 8, 9, 10, 11, 12, 13] (Below wc.heap.size wc) (Stable.below wc) (Below.refl _ _).drew (by kernel_rfl) (by kernel_rfl) ?_
          simp only [opsOf, List.getElem?_cons_succ, List.getElem?_cons_zero, List.drop_succ_cons, List.drop_zero]
          refine wpL_val ?v41 rfl (by rfl) (fun wq hq => ?y41) ?z41
          case y41 => go_simp; with_reducible rfl
          try simp only [Act.put, List.setIfInBounds_toArray, List.set_cons_zero, List.set_cons_succ]
          refine wpL_val ?v42 rfl (by rfl) (fun wq hq => ?y42) ?z42
          case y42 => have c := (hq.cell (p := ⟨g, 34, none⟩) hgw).trans e34; go_simp; with_reducible rfl
          try simp only [Act.put, List.setIfInBounds_toArray, List.set_cons_zero, List.set_cons_succ]
          refine wpL_val ?v43 rfl (by rfl) (fun wq hq => ?y43) ?z43
          case y43 => go_simp; with_reducible rfl
          try simp only [Act.put, List.setIfInBounds_toArray, List.set_cons_zero, List.set_cons_succ]
          refine wpL_val ?v44 rfl (by rfl) (fun wq hq => ?y44) ?z44
          case y44 => go_simp; with_reducible rfl
          try simp only [Act.put, List.setIfInBounds_toArray, List.set_cons_zero, List.set_cons_succ]
          refine wpL_val ?v45 rfl (by rfl) (fun wq hq => ?y45) ?z45
          case y45 => go_simp; with_reducible rfl
          try simp only [Act.put, List.setIfInBounds_toArray, List.set_cons_zero, List.set_cons_succ]
          refine wpL_val ?v46 rfl (by rfl) (fun wq hq => ?y46) ?z46
          case y46 => go_simp; with_reducible rfl
          try simp only [Act.put, List.setIfInBounds_toArray, List.set_cons_zero, List.set_cons_succ]
          refine wpL_val ?v47 rfl (by rfl) (fun wq hq => ?y47) ?z47
          case y47 => go_simp; with_reducible rfl
          try simp only [Act.put, List.setIfInBounds_toArray, List.set_cons_zero, List.set_cons_succ]
          refine wpL_val ?v48 rfl (by rfl) (fun wq hq => ?y48) ?z48
          case y48 => go_simp; with_reducible rfl
          try simp only [Act.put, List.setIfInBounds_toArray, List.set_cons_zero, List.set_cons_succ]
          refine wpL_val ?v49 rfl (by rfl) (fun wq hq => ?y49) ?z49
          case y49 => go_simp; with_reducible rfl
          try simp only [Act.put, List.setIfInBounds_toArray, List.set_cons_zero, List.set_cons_succ]
          refine wpL_val ?v50 rfl (by rfl) (fun wq hq => ?y50) ?z50
          case y50 => have c := (hq.cell (p := ⟨gd, q * 32 + r, none⟩) hgd).trans ck; go_simp; with_reducible rfl
          try simp only [Act.put, List.setIfInBounds_toArray, List.set_cons_zero, List.set_cons_succ]
          refine wpL_val ?v51 rfl (by rfl) (fun wq hq => ?y51) ?z51
          case y51 => go_simp; with_reducible rfl
          try simp only [Act.put, List.setIfInBounds_toArray, List.set_cons_zero, List.set_cons_succ]
          refine wpL_val ?v52 rfl (by rfl) (fun wq hq => ?y52) ?z52
          case y52 => go_simp; with_reducible rfl
          try simp only [Act.put, List.setIfInBounds_toArray, List.set_cons_zero, List.set_cons_succ]
          refine wpL_val ?v53 rfl (by rfl) (fun wq hq => ?y53) ?z53
          case y53 => go_simp; with_reducible rfl
          try simp only [Act.put, List.setIfInBounds_toArray, List.set_cons_zero, List.set_cons_succ]
          refine wpL_val ?v54 rfl (by rfl) (fun wq hq => ?y54) ?z54
          case y54 => go_simp; with_reducible rfl
          try simp only [Act.put, List.setIfInBounds_toArray, List.set_cons_zero, List.set_cons_succ]
          refine wpL_nil ?_
          intro wt hwt
          have ck := (hwt.cell (p := ⟨gd, q * 32 + r, none⟩) hgd).trans ck
          have fk := (hwt.frozen (p := ⟨gd, q * 32 + r, none⟩) hgd).trans fk
          go_wp2_with fail
          go_meet
          case rel =>
            have hgn : gd ≠ g := fun e => hne7 (by rw [e]; rfl)
            have hA8 := (HA7.out.below hwt hgw).other ⟨gd, q * 32 + r, none⟩ (V8 (x ^^^ bb)) (Ne.symm hgn)
            have hO8 := (HO7.out.below hwt (Nat.le_refl _)).set (q * 32 + r) (V8 (x ^^^ bb))
            rw [← HX0.out, ← flat_set path HALL.out q r bb (by rw [HM.out]; exact hqm) hr32, HX0.out] at hO8
            rw [HLM.out] at hA8
            have hgl := (HO7.out.lt gd rfl).1
            exact ⟨leaf, spoilN path q r bb, HL.out, by rw [spoilN_length, HM.out], spoilN_all path HALL.out q r bb (by rw [HM.out]; exact hqm), fun h => by rw [h, spoilN_zero]; exact ⟨rfl, rfl⟩, fun h he => spoilN_ne path HALL.out q r bb (by rw [HM.out]; exact hqm) hr32 h he.2.symm, hA8, hO8, (hBc.trans (hwt.mono hBc.size)).setCell hgl _⟩
      case rest =>
        clear hA7 hO7 e34 hBc hkm
        obtain ⟨leaf2, p2, hl2, hm2, hall2, hz, hnz, hA7, hO7, hBc⟩ := hcut
        have hall := HD1.out.all
        have hmp := HM.out
        have hD2 : Digs wc (.slice da m dc) p2 := Own.digs (ds := p2) (by rw [hm2]; exact hO7) hall2
        have hcall1 := fun w hV => fromRS_any leaf i n path (.slice av m cv) w HL.out hV
        have hcall2 := fun w hV => fromRS_any leaf2 i n p2 (.slice da m dc) w hl2 hV
        have hr1 := fromS_length leaf HL.out i n path
        have hr2 := fromS_length leaf2 hl2 i n p2
        have hnot := collS_not i n leaf leaf2 path p2
        have hself : bb = 0 → collS i n leaf path leaf2 p2 = ([], [], false) := fun h => by obtain ⟨e1, e2⟩ := hz h; rw [e1, e2]; exact collS_self i n leaf path
        have hyes := fun h1 h2 h3 (hb : bb ≠ 0) => collS_yes i n leaf leaf2 path p2 HL.out hl2 hall hall2 h1 h2 h3 (hnz hb)
        have hcode1 : (fromS leaf i n path).2 = 0 ∨ (fromS leaf i n path).2 = 2 ∨ (fromS leaf i n path).2 = 35 := by unfold fromS; split; exact .inr (.inl rfl); split; exact .inl rfl; exact .inr (.inr rfl)
        have hcode2 : (fromS leaf2 i n p2).2 = 0 ∨ (fromS leaf2 i n p2).2 = 2 ∨ (fromS leaf2 i n p2).2 = 35 := by unfold fromS; split; exact .inr (.inl rfl); split; exact .inl rfl; exact .inr (.inr rfl)
        have hcoll := fun va vb w hV hW hK => coll_any i n leaf leaf2 path p2 va vb w HL.out hl2 (by omega) (by omega) hV hW hK
        obtain ⟨lb, hB, hbm, hbl, -⟩ := v8_list leaf2 hl2
        rw [← HLM.out, ← hbm] at hcoll
        rw [← hbm] at hA7
        rw [HA.out] at hcall1
        rw [hB] at hcall2
        generalize collS i n leaf path leaf2 p2 = X at *
        generalize fromS leaf i n path = F1 at *
        generalize fromS leaf2 i n p2 = F2 at *
        obtain ⟨r, e1⟩ := F1
        obtain ⟨s, e2⟩ := F2
        obtain ⟨X, Y, ok⟩ := X
        simp only at hcall1 hcall2 hr1 hr2 hnot hself hyes hcode1 hcode2 hcoll
        obtain ⟨lr, hR, -, hrl, hro⟩ := v8_list r hr1
        obtain ⟨ls, hS, -, hsl, hso⟩ := v8_list s hr2
        have HR := Lib.hid hR; have HS := Lib.hid hS
        have lr_I := Lib.hid (inf_size infR32 lr hrl); have lr_S := Lib.hid (st_size lr hrl); have lr_O := Lib.hid (all_oneCell_toArray hro)
        have ls_I := Lib.hid (inf_size infR32 ls hsl); have ls_S := Lib.hid (st_size ls hsl); have ls_O := Lib.hid (all_oneCell_toArray hso)
        have lr_L := Lib.hid (show (Tryd.prog.info? 23).map (·.size) = some lr.length by rw [hrl]; exact infR32)
        have ls_L := Lib.hid (show (Tryd.prog.info? 23).map (·.size) = some ls.length by rw [hsl]; exact infR32)
        have HLB := Lib.hid (show (Tryd.prog.info? 23).map (·.size) = some lb.length by rw [hbl]; exact infR32)
        have HBL := Lib.hid hbl
        have HCOLL := Lib.hid hcoll; have HNOT := Lib.hid hnot; have HSELF := Lib.hid hself; have HYES := Lib.hid hyes
        have c5 := CL.of w1 hBc r1.out d32.out d33.out d34.out hA1 hA7 HBL.out
        have HD5 := Lib.hid (HD1.out.below hBc (Nat.le_refl _)); have HD6 := Lib.hid hD2; have Hk5 := Lib.hid (Hk1.out.below hBc (Nat.le_refl _))
        have hB5 : Below A w wc := hB1.trans (hBc.mono (by omega))
        clear hall hall2 hD2 hz hnz hnot hself hyes hcoll hR hS hrl hro hsl hso hbl hl2 hm2 hmp hbm hB hA7 hO7 hBc HD1 Hk1 hB1 hne7 hg7 r1 d32 d33 d34
        have x0 := c5.c0; have x1 := c5.c1; have x2 := c5.c2
        have R5 := Lib.hid c5.r0
        go_wp2_with ((with_reducible refine at_ld 23 (.tmp 69) ?_); refine wpList_load_mid rfl 23 (.tmp 69) rfl A 0 rfl la _ R5.out huR.out rfl HLI.out ?_)
        refine (hcall1 _ HD5.out).mono ?_
        rintro e w5 ⟨rfl, hb5⟩
        rw [HR.out]
        have c6 := c5.below hb5
        have hB6 : Below A w w5 := hB5.trans (hb5.mono (by have := c5.lt; omega))
        have v5 := Lib.hid (one_var w5 23 lr)
        have HD5' := Lib.hid (HD5.out.below hb5 (Nat.le_refl _)); have HD6' := Lib.hid (HD6.out.below hb5 (Nat.le_refl _)); have Hk5' := Lib.hid (Hk5.out.below hb5 (Nat.le_refl _))
        clear hb5 c5 hB5 HD5 HD6 Hk5 R5 x0 x1 x2
        go_upto_region 9 with ((with_reducible refine at_st 23 (.tmp 9) (.tmp 78) ?_); refine wpList_store_row rfl 23 (.tmp 9) (.tmp 78) rfl w5.heap.size lr.toArray rfl rfl 23 _ v5.out.1 lr_I.out lr_S.out lr_O.out ?_)
        have ⟨_, rv, rB, rz⟩ := v5.out
        clear v5
        change Code.wp _ _ _ _ ((w5.alloc (Z32 23)).setRow w5.heap.size lr.toArray)
        generalize (w5.alloc (Z32 23)).setRow w5.heap.size lr.toArray = w6 at *
        have c7 := c6.below rB
        have hB7 : Below A w w6 := hB6.trans (rB.mono (by have := c6.lt; omega))
        have HD7 := Lib.hid (HD5'.out.below rB (Nat.le_refl _)); have HE7 := Lib.hid (HD6'.out.below rB (Nat.le_refl _)); have Hk7 := Lib.hid (Hk5'.out.below rB (Nat.le_refl _))
        generalize w5.heap.size = g5 at *
        clear c6 hB6 rB HD5' HD6' Hk5'
        have x0 := c7.e0; have x1 := c7.e1; have x2 := c7.e2
        have R7 := Lib.hid c7.r1
        go_wp2_with ((with_reducible refine at_ld 23 (.tmp 81) ?_); refine wpList_load_mid rfl 23 (.tmp 81) rfl g 0 rfl lb _ R7.out huR.out rfl HLB.out ?_)
        refine (hcall2 _ HE7.out).mono ?_
        rintro e w7 ⟨rfl, hb7⟩
        rw [HS.out]
        have c8 := c7.below hb7
        have rv := rv.below hb7 rv.lt
        have hB8 : Below A w w7 := hB7.trans (hb7.mono (by have := c7.lt; omega))
        have v7 := Lib.hid (one_var w7 23 ls)
        have HD8 := Lib.hid (HD7.out.below hb7 (Nat.le_refl _)); have HE8 := Lib.hid (HE7.out.below hb7 (Nat.le_refl _)); have Hk8 := Lib.hid (Hk7.out.below hb7 (Nat.le_refl _))
        clear hb7 c7 hB7 HD7 HE7 Hk7 R7 x0 x1 x2
        go_upto_region 10 with ((with_reducible refine at_st 23 (.tmp 11) (.tmp 90) ?_); refine wpList_store_row rfl 23 (.tmp 11) (.tmp 90) rfl w7.heap.size ls.toArray rfl rfl 23 _ v7.out.1 ls_I.out ls_S.out ls_O.out ?_)
        have ⟨_, sv, sB, sz⟩ := v7.out
        clear v7
        change Code.wp _ _ _ _ ((w7.alloc (Z32 23)).setRow w7.heap.size ls.toArray)
        generalize (w7.alloc (Z32 23)).setRow w7.heap.size ls.toArray = w8 at *
        have c9 := c8.below sB
        have rv := rv.below sB rv.lt
        have hB9 : Below A w w8 := hB8.trans (sB.mono (by have := c8.lt; omega))
        have HD9 := Lib.hid (HD8.out.below sB (Nat.le_refl _)); have HE9 := Lib.hid (HE8.out.below sB (Nat.le_refl _)); have Hk9 := Lib.hid (Hk8.out.below sB (Nat.le_refl _))
        generalize w7.heap.size = g7 at *
        clear c8 hB8 sB HD8 HE8 Hk8
        go_cut [13, 14, 15] from 16 (fun v13 v14 v15 w' => v13 = .string (bs X) ∧ v14 = .string (bs Y) ∧ v15 = .bool ok ∧ Below w8.heap.size w8 w')
        case first =>
          have hg9 := c9.gt; have hA9 := c9.lt
          have C9 := Lib.hid c9
          have hle : path.length ≤ 1048576 := by rw [HM.out]; omega
          have hp2 : p2.length = m := by obtain ⟨a, c, h⟩ := HE9.out.shape; cases h; rfl
          have HP2 := Lib.hid hp2; have HLE := Lib.hid hle
          clear c9 rv sv hp2 hle
          refine wp_region_all [8, 14, 16] [0, 1, 2, 3, 4, 5, 6, 7, 10, 11, 12, 13, 8, 9, 14, 15, 16, 17, 18, 19, 20, 21, 22, 23] (Below w8.heap.size w8) (Stable.below w8) (Below.refl _ _).drew (by kernel_rfl) (by kernel_rfl) ?_
          simp only [opsOf, List.getElem?_cons_succ, List.getElem?_cons_zero, List.drop_succ_cons, List.drop_zero]
          refine wpL_val ?v57 rfl (by rfl) (fun wq hq => ?y57) ?z57
          case y57 => go_simp; with_reducible rfl
          try simp only [Act.put, List.setIfInBounds_toArray, List.set_cons_zero, List.set_cons_succ]
          refine wpL_val ?v58 rfl (by rfl) (fun wq hq => ?y58) ?z58
          case y58 => have c := (hq.cell (p := ⟨A, 32, none⟩) hA9).trans C9.out.c0; go_simp; with_reducible rfl
          try simp only [Act.put, List.setIfInBounds_toArray, List.set_cons_zero, List.set_cons_succ]
          refine wpL_val ?v59 rfl (by rfl) (fun wq hq => ?y59) ?z59
          case y59 => go_simp; with_reducible rfl
          try simp only [Act.put, List.setIfInBounds_toArray, List.set_cons_zero, List.set_cons_succ]
          refine wpL_val ?v60 rfl (by rfl) (fun wq hq => ?y60) ?z60
          case y60 => have c := (hq.cell (p := ⟨A, 33, none⟩) hA9).trans C9.out.c1; go_simp; with_reducible rfl
          try simp only [Act.put, List.setIfInBounds_toArray, List.set_cons_zero, List.set_cons_succ]
          refine wpL_val ?v61 rfl (by rfl) (fun wq hq => ?y61) ?z61
          case y61 => go_simp; with_reducible rfl
          try simp only [Act.put, List.setIfInBounds_toArray, List.set_cons_zero, List.set_cons_succ]
          refine wpL_val (.agg la.toArray) rfl (by rfl) (fun wq hq => quiet_ld 23 _ rfl _ _ rfl la _ (range_below C9.out.r0 hq hA9) huR.out rfl HLI.out) ?_
          try simp only [Act.put, List.setIfInBounds_toArray, List.set_cons_zero, List.set_cons_succ]
          refine wpL_val ?v63 rfl (by rfl) (fun wq hq => ?y63) ?z63
          case y63 => go_simp; with_reducible rfl
          try simp only [Act.put, List.setIfInBounds_toArray, List.set_cons_zero, List.set_cons_succ]
          refine wpL_val ?v64 rfl (by rfl) (fun wq hq => ?y64) ?z64
          case y64 => have c := (hq.cell (p := ⟨A, 34, none⟩) hA9).trans C9.out.c2; go_simp; with_reducible rfl
          try simp only [Act.put, List.setIfInBounds_toArray, List.set_cons_zero, List.set_cons_succ]
          refine wpL_val ?v65 rfl (by rfl) (fun wq hq => ?y65) ?z65
          case y65 => go_simp; with_reducible rfl
          try simp only [Act.put, List.setIfInBounds_toArray, List.set_cons_zero, List.set_cons_succ]
          refine wpL_val (.agg lb.toArray) rfl (by rfl) (fun wq hq => quiet_ld 23 _ rfl _ _ rfl lb _ (range_below C9.out.r1 hq hg9) huR.out rfl HLB.out) ?_
          try simp only [Act.put, List.setIfInBounds_toArray, List.set_cons_zero, List.set_cons_succ]
          refine wpL_val ?v67 rfl (by rfl) (fun wq hq => ?y67) ?z67
          case y67 => go_simp; with_reducible rfl
          try simp only [Act.put, List.setIfInBounds_toArray, List.set_cons_zero, List.set_cons_succ]
          refine wpL_val ?v68 rfl (by rfl) (fun wq hq => ?y68) ?z68
          case y68 => have c := (hq.cell (p := ⟨g, 34, none⟩) hg9).trans C9.out.e2; go_simp; with_reducible rfl
          try simp only [Act.put, List.setIfInBounds_toArray, List.set_cons_zero, List.set_cons_succ]
          refine wpL_made (fun v => ∃ a c, v = .slice a m c) (fun v w => Digs w v path) rfl (by rfl) (Stable.below w8) (fun _ h => h) (stabDigs path) (fun wq hq => ?y69) ?_
          case y69 => unfold genAt; go_simp; refine (own_any path _ _ HLE.out (HD9.out.below hq (Nat.le_refl _))).mono ?_; rintro e wz ⟨⟨vz, rfl, hV⟩, hb⟩; exact ⟨vz, rfl, by obtain ⟨a, c, h⟩ := hV.shape; rw [HM.out] at h; exact ⟨a, c, h⟩, hV, hb⟩
          intro v1 hv1; obtain ⟨a1, c1, rfl⟩ := hv1
          try simp only [Act.put, List.setIfInBounds_toArray, List.set_cons_zero, List.set_cons_succ]
          refine wpL_val (.agg (la ++ [Value.slice a1 m c1]).toArray) rfl (by rfl) (fun wq hq => quiet_build2 52 (.tmp 98) (.tmp 101) rfl _ _ rfl rfl _ (built_proof la HAL.out a1 m c1)) ?_
          try simp only [Act.put, List.setIfInBounds_toArray, List.set_cons_zero, List.set_cons_succ]
          refine wpL_made (fun v => ∃ a c, v = .slice a m c) (fun v w => Digs w v p2) rfl (by rfl) (Stable.made (Stable.below w8) (stabDigs path _)) (fun _ h => h.1) (stabDigs p2) (fun wq hq => ?y71) ?_
          case y71 => unfold genAt; go_simp; refine (own_any p2 _ _ (by rw [HP2.out]; omega) (HE9.out.below hq.1 (Nat.le_refl _))).mono ?_; rintro e wz ⟨⟨vz, rfl, hV⟩, hb⟩; exact ⟨vz, rfl, by obtain ⟨a, c, h⟩ := hV.shape; rw [HP2.out] at h; exact ⟨a, c, h⟩, hV, hb⟩
          intro v2 hv2; obtain ⟨a2, c2, rfl⟩ := hv2
          try simp only [Act.put, List.setIfInBounds_toArray, List.set_cons_zero, List.set_cons_succ]
          refine wpL_val (.agg (lb ++ [Value.slice a2 m c2]).toArray) rfl (by rfl) (fun wq hq => quiet_build2 52 (.tmp 104) (.tmp 107) rfl _ _ rfl rfl _ (built_proof lb HBL.out a2 m c2)) ?_
          try simp only [Act.put, List.setIfInBounds_toArray, List.set_cons_zero, List.set_cons_succ]
          refine wpL_one ?v73 rfl (by rfl) (Stable.made (Stable.made (Stable.below w8) (stabDigs path _)) (stabDigs p2 _)) (fun _ h => h.1.1) (fun wq hq => ?y73) ?z73
          case y73 => go_simp; exact HCOLL.out _ _ _ hq.1.2 hq.2 (Hk9.out.below hq.1.1 (Nat.le_refl _))
          try simp only [Act.put, List.setIfInBounds_toArray, List.set_cons_zero, List.set_cons_succ]
          refine wpL_val ?v74 rfl (by rfl) (fun wq hq => ?y74) ?z74
          case y74 => go_simp; with_reducible rfl
          try simp only [Act.put, List.setIfInBounds_toArray, List.set_cons_zero, List.set_cons_succ]
          refine wpL_val ?v75 rfl (by rfl) (fun wq hq => ?y75) ?z75
          case y75 => go_simp; with_reducible rfl
          try simp only [Act.put, List.setIfInBounds_toArray, List.set_cons_zero, List.set_cons_succ]
          refine wpL_val ?v76 rfl (by rfl) (fun wq hq => ?y76) ?z76
          case y76 => go_simp; with_reducible rfl
          try simp only [Act.put, List.setIfInBounds_toArray, List.set_cons_zero, List.set_cons_succ]
          refine wpL_val ?v77 rfl (by rfl) (fun wq hq => ?y77) ?z77
          case y77 => go_simp; with_reducible rfl
          try simp only [Act.put, List.setIfInBounds_toArray, List.set_cons_zero, List.set_cons_succ]
          refine wpL_val ?v78 rfl (by rfl) (fun wq hq => ?y78) ?z78
          case y78 => go_simp; with_reducible rfl
          try simp only [Act.put, List.setIfInBounds_toArray, List.set_cons_zero, List.set_cons_succ]
          refine wpL_val ?v79 rfl (by rfl) (fun wq hq => ?y79) ?z79
          case y79 => go_simp; with_reducible rfl
          try simp only [Act.put, List.setIfInBounds_toArray, List.set_cons_zero, List.set_cons_succ]
          refine wpL_val ?v80 rfl (by rfl) (fun wq hq => ?y80) ?z80
          case y80 => go_simp; with_reducible rfl
          try simp only [Act.put, List.setIfInBounds_toArray, List.set_cons_zero, List.set_cons_succ]
          refine wpL_nil ?_
          intro wt hwt
          go_wp2_with fail
          go_meet
          case rel => exact ⟨rfl, rfl, rfl, hwt.1.1⟩
        case rest =>
          obtain ⟨rfl, rfl, rfl, hBz⟩ := hcut
          have hBw : Below A w wc := hB9.trans (hBz.mono (by have := c9.lt; omega))
          have rv := rv.below hBz rv.lt
          have sv := sv.below hBz sv.lt
          clear c9 hB9 hBz HD9 HE9 Hk9
          have e0 : (bs [] : ByteArray) = { data := #[] } := rfl
          by_cases hbad : e1 ≠ 0 ∨ e2 ≠ 0 ∨ r ≠ s
          · have hX := HNOT.out hbad
            simp only [Prod.mk.injEq] at hX
            obtain ⟨rfl, rfl, rfl⟩ := hX
            rw [e0]
            clear e0
            by_cases h1 : e1 = 0
            · subst h1
              by_cases h2 : e2 = 0
              · subst h2
                have hrs : ¬ r = s := by simpa using hbad
                go_upto_region 11 with (fail)
                refine wp_region_listed 14 [] (Below wc.heap.size wc) (by decide) (Stable.below wc) (Below.refl _ _) ?_
                simp only [List.range, List.range.loop, opsOf, List.getElem?_cons_succ, List.getElem?_cons_zero, List.drop_succ_cons, List.drop_zero]
                refine wpL_val ?v83 rfl (by rfl) (fun wq hq => ?y83) ?z83
                case y83 => go_simp; with_reducible rfl
                try simp only [Act.put, List.setIfInBounds_toArray, List.set_cons_zero, List.set_cons_succ]
                refine wpL_val ?v84 rfl (by rfl) (fun wq hq => ?y84) ?z84
                case y84 => go_simp; with_reducible rfl
                try simp only [Act.put, List.setIfInBounds_toArray, List.set_cons_zero, List.set_cons_succ]
                refine wpL_val ?v85 rfl (by rfl) (fun wq hq => ?y85) ?z85
                case y85 => go_simp; with_reducible rfl
                try simp only [Act.put, List.setIfInBounds_toArray, List.set_cons_zero, List.set_cons_succ]
                refine wpL_val ?v86 rfl (by rfl) (fun wq hq => ?y86) ?z86
                case y86 => go_simp; with_reducible rfl
                try simp only [Act.put, List.setIfInBounds_toArray, List.set_cons_zero, List.set_cons_succ]
                refine wpL_val ?v87 rfl (by rfl) (fun wq hq => ?y87) ?z87
                case y87 => go_simp; with_reducible rfl
                try simp only [Act.put, List.setIfInBounds_toArray, List.set_cons_zero, List.set_cons_succ]
                refine wpL_val ?v88 rfl (by rfl) (fun wq hq => ?y88) ?z88
                case y88 => go_simp; with_reducible rfl
                try simp only [Act.put, List.setIfInBounds_toArray, List.set_cons_zero, List.set_cons_succ]
                refine wpL_val ?v89 rfl (by rfl) (fun wq hq => ?y89) ?z89
                case y89 => go_simp; with_reducible rfl
                try simp only [Act.put, List.setIfInBounds_toArray, List.set_cons_zero, List.set_cons_succ]
                refine wpL_val (.agg lr.toArray) rfl (by rfl) (fun wq hq => quiet_ld 23 _ rfl _ _ rfl lr _ (range_below rv.range hq rv.lt) huR.out rfl lr_L.out) ?_
                try simp only [Act.put, List.setIfInBounds_toArray, List.set_cons_zero, List.set_cons_succ]
                refine wpL_val (.agg ls.toArray) rfl (by rfl) (fun wq hq => quiet_ld 23 _ rfl _ _ rfl ls _ (range_below sv.range hq sv.lt) huR.out rfl ls_L.out) ?_
                try simp only [Act.put, List.setIfInBounds_toArray, List.set_cons_zero, List.set_cons_succ]
                refine wpL_val (.bool (!false)) rfl (by rfl) (fun wq hq => quiet_neq 23 _ _ _ rfl _ _ rfl rfl guardR false ((eqlR r s hr1 hr2 _ _ HR.out HS.out wq).trans (by rw [decide_eq_false hrs]))) ?_
                try simp only [Act.put, List.setIfInBounds_toArray, List.set_cons_zero, List.set_cons_succ]
                refine wpL_val ?v93 rfl (by rfl) (fun wq hq => ?y93) ?z93
                case y93 => go_simp; with_reducible rfl
                try simp only [Act.put, List.setIfInBounds_toArray, List.set_cons_zero, List.set_cons_succ]
                refine wpL_val ?v94 rfl (by rfl) (fun wq hq => ?y94) ?z94
                case y94 => go_simp; with_reducible rfl
                try simp only [Act.put, List.setIfInBounds_toArray, List.set_cons_zero, List.set_cons_succ]
                refine wpL_skip rfl (by rfl) ?_
                try simp only [Act.put, List.setIfInBounds_toArray, List.set_cons_zero, List.set_cons_succ]
                refine wpL_skip rfl (by rfl) ?_
                try simp only [Act.put, List.setIfInBounds_toArray, List.set_cons_zero, List.set_cons_succ]
                refine wpL_nil ?_
                intro wz hwz
                go_wp2_with fail
                go_ret
                exact ⟨rfl, by (try rw [hAe]); exact hBw.trans (hwz.mono (by have := hBw.size; omega))⟩
              · have h3 : e2 = 2 ∨ e2 = 35 := by omega
                rcases h3 with rfl | rfl <;> (go_wp2_with fail; go_ret; exact ⟨rfl, by (try rw [hAe]); exact hBw⟩)
            · have h3 : e1 = 2 ∨ e1 = 35 := by omega
              rcases h3 with rfl | rfl <;> (go_wp2_with fail; go_ret; exact ⟨rfl, by (try rw [hAe]); exact hBw⟩)
          · have h0 : e1 = 0 ∧ e2 = 0 ∧ r = s := by
              refine ⟨?_, ?_, ?_⟩ <;> (apply Classical.byContradiction; intro h; exact hbad (by simp [h]))
            obtain ⟨rfl, rfl, rfl⟩ := h0
            clear hbad
            by_cases hb : bb = 0
            · have hX := HSELF.out hb
              simp only [Prod.mk.injEq] at hX
              obtain ⟨rfl, rfl, rfl⟩ := hX
              rw [e0]
              clear e0
              have hbi : ((bb.toNat : Nat) : Int) = 0 := by rw [hb]; rfl
              clear hb
              go_upto_region 11 with (fail)
              refine wp_region_listed 14 [] (Below wc.heap.size wc) (by decide) (Stable.below wc) (Below.refl _ _) ?_
              simp only [List.range, List.range.loop, opsOf, List.getElem?_cons_succ, List.getElem?_cons_zero, List.drop_succ_cons, List.drop_zero]
              refine wpL_val ?v99 rfl (by rfl) (fun wq hq => ?y99) ?z99
              case y99 => go_simp; with_reducible rfl
              try simp only [Act.put, List.setIfInBounds_toArray, List.set_cons_zero, List.set_cons_succ]
              refine wpL_val ?v100 rfl (by rfl) (fun wq hq => ?y100) ?z100
              case y100 => go_simp; with_reducible rfl
              try simp only [Act.put, List.setIfInBounds_toArray, List.set_cons_zero, List.set_cons_succ]
              refine wpL_val ?v101 rfl (by rfl) (fun wq hq => ?y101) ?z101
              case y101 => go_simp; with_reducible rfl
              try simp only [Act.put, List.setIfInBounds_toArray, List.set_cons_zero, List.set_cons_succ]
              refine wpL_val ?v102 rfl (by rfl) (fun wq hq => ?y102) ?z102
              case y102 => go_simp; with_reducible rfl
              try simp only [Act.put, List.setIfInBounds_toArray, List.set_cons_zero, List.set_cons_succ]
              refine wpL_val ?v103 rfl (by rfl) (fun wq hq => ?y103) ?z103
              case y103 => go_simp; with_reducible rfl
              try simp only [Act.put, List.setIfInBounds_toArray, List.set_cons_zero, List.set_cons_succ]
              refine wpL_val ?v104 rfl (by rfl) (fun wq hq => ?y104) ?z104
              case y104 => go_simp; with_reducible rfl
              try simp only [Act.put, List.setIfInBounds_toArray, List.set_cons_zero, List.set_cons_succ]
              refine wpL_val ?v105 rfl (by rfl) (fun wq hq => ?y105) ?z105
              case y105 => go_simp; with_reducible rfl
              try simp only [Act.put, List.setIfInBounds_toArray, List.set_cons_zero, List.set_cons_succ]
              refine wpL_val (.agg lr.toArray) rfl (by rfl) (fun wq hq => quiet_ld 23 _ rfl _ _ rfl lr _ (range_below rv.range hq rv.lt) huR.out rfl lr_L.out) ?_
              try simp only [Act.put, List.setIfInBounds_toArray, List.set_cons_zero, List.set_cons_succ]
              refine wpL_val (.agg ls.toArray) rfl (by rfl) (fun wq hq => quiet_ld 23 _ rfl _ _ rfl ls _ (range_below sv.range hq sv.lt) huR.out rfl ls_L.out) ?_
              try simp only [Act.put, List.setIfInBounds_toArray, List.set_cons_zero, List.set_cons_succ]
              refine wpL_val (.bool (!true)) rfl (by rfl) (fun wq hq => quiet_neq 23 _ _ _ rfl _ _ rfl rfl guardR true ((eqlR r r hr1 hr2 _ _ HR.out HS.out wq).trans (by rw [decide_eq_true rfl]))) ?_
              try simp only [Act.put, List.setIfInBounds_toArray, List.set_cons_zero, List.set_cons_succ]
              refine wpL_val ?v109 rfl (by rfl) (fun wq hq => ?y109) ?z109
              case y109 => go_simp; with_reducible rfl
              try simp only [Act.put, List.setIfInBounds_toArray, List.set_cons_zero, List.set_cons_succ]
              refine wpL_val ?v110 rfl (by rfl) (fun wq hq => ?y110) ?z110
              case y110 => go_simp; with_reducible rfl
              try simp only [Act.put, List.setIfInBounds_toArray, List.set_cons_zero, List.set_cons_succ]
              refine wpL_val ?v111 rfl (by rfl) (fun wq hq => ?y111) ?z111
              case y111 => go_simp; with_reducible rfl
              try simp only [Act.put, List.setIfInBounds_toArray, List.set_cons_zero, List.set_cons_succ]
              refine wpL_val ?v112 rfl (by rfl) (fun wq hq => ?y112) ?z112
              case y112 => go_simp; with_reducible rfl
              try simp only [Act.put, List.setIfInBounds_toArray, List.set_cons_zero, List.set_cons_succ]
              refine wpL_nil ?_
              intro wz hwz
              go_wp2_with fail
              go_ret
              exact ⟨rfl, by (try rw [hAe]); exact hBw.trans (hwz.mono (by have := hBw.size; omega))⟩
            · obtain ⟨x, y, hxy, hne, hsum, hxl, hyl⟩ := HYES.out rfl rfl rfl hb
              simp only [Prod.mk.injEq] at hxy
              obtain ⟨rfl, rfl, rfl⟩ := hxy
              have hbi : ¬ ((bb.toNat : Nat) : Int) = 0 := fun h => hb (UInt8.toNat_inj.1 (by simpa using h))
              have hneb : ¬ bs X = bs Y := fun h => hne (bs_inj h)
              have HNE := Lib.hid hneb; have HBI := Lib.hid hbi
              have hbd : decide (((bb.toNat : Nat) : Int) = 0) = false := decide_eq_false hbi
              have HSUM := Lib.hid hsum
              clear hb hne hneb e0 hsum
              go_upto_region 11 with (fail)
              refine wp_region_listed 14 [] (Below wc.heap.size wc) (by decide) (Stable.below wc) (Below.refl _ _) ?_
              simp only [List.range, List.range.loop, opsOf, List.getElem?_cons_succ, List.getElem?_cons_zero, List.drop_succ_cons, List.drop_zero]
              refine wpL_val ?v115 rfl (by rfl) (fun wq hq => ?y115) ?z115
              case y115 => go_simp; with_reducible rfl
              try simp only [Act.put, List.setIfInBounds_toArray, List.set_cons_zero, List.set_cons_succ]
              refine wpL_val ?v116 rfl (by rfl) (fun wq hq => ?y116) ?z116
              case y116 => go_simp; with_reducible rfl
              try simp only [Act.put, List.setIfInBounds_toArray, List.set_cons_zero, List.set_cons_succ]
              refine wpL_val ?v117 rfl (by rfl) (fun wq hq => ?y117) ?z117
              case y117 => go_simp; with_reducible rfl
              try simp only [Act.put, List.setIfInBounds_toArray, List.set_cons_zero, List.set_cons_succ]
              refine wpL_val ?v118 rfl (by rfl) (fun wq hq => ?y118) ?z118
              case y118 => go_simp; with_reducible rfl
              try simp only [Act.put, List.setIfInBounds_toArray, List.set_cons_zero, List.set_cons_succ]
              refine wpL_val ?v119 rfl (by rfl) (fun wq hq => ?y119) ?z119
              case y119 => go_simp; with_reducible rfl
              try simp only [Act.put, List.setIfInBounds_toArray, List.set_cons_zero, List.set_cons_succ]
              refine wpL_val ?v120 rfl (by rfl) (fun wq hq => ?y120) ?z120
              case y120 => go_simp; with_reducible rfl
              try simp only [Act.put, List.setIfInBounds_toArray, List.set_cons_zero, List.set_cons_succ]
              refine wpL_val ?v121 rfl (by rfl) (fun wq hq => ?y121) ?z121
              case y121 => go_simp; with_reducible rfl
              try simp only [Act.put, List.setIfInBounds_toArray, List.set_cons_zero, List.set_cons_succ]
              refine wpL_val (.agg lr.toArray) rfl (by rfl) (fun wq hq => quiet_ld 23 _ rfl _ _ rfl lr _ (range_below rv.range hq rv.lt) huR.out rfl lr_L.out) ?_
              try simp only [Act.put, List.setIfInBounds_toArray, List.set_cons_zero, List.set_cons_succ]
              refine wpL_val (.agg ls.toArray) rfl (by rfl) (fun wq hq => quiet_ld 23 _ rfl _ _ rfl ls _ (range_below sv.range hq sv.lt) huR.out rfl ls_L.out) ?_
              try simp only [Act.put, List.setIfInBounds_toArray, List.set_cons_zero, List.set_cons_succ]
              refine wpL_val (.bool (!true)) rfl (by rfl) (fun wq hq => quiet_neq 23 _ _ _ rfl _ _ rfl rfl guardR true ((eqlR r r hr1 hr2 _ _ HR.out HS.out wq).trans (by rw [decide_eq_true rfl]))) ?_
              try simp only [Act.put, List.setIfInBounds_toArray, List.set_cons_zero, List.set_cons_succ]
              refine wpL_val ?v125 rfl (by rfl) (fun wq hq => ?y125) ?z125
              case y125 => go_simp; with_reducible rfl
              try simp only [Act.put, List.setIfInBounds_toArray, List.set_cons_zero, List.set_cons_succ]
              refine wpL_val ?v126 rfl (by rfl) (fun wq hq => ?y126) ?z126
              case y126 => go_simp; with_reducible rfl
              try simp only [Act.put, List.setIfInBounds_toArray, List.set_cons_zero, List.set_cons_succ]
              refine wpL_val ?v127 rfl (by rfl) (fun wq hq => ?y127) ?z127
              case y127 => go_simp; with_reducible rfl
              try simp only [Act.put, List.setIfInBounds_toArray, List.set_cons_zero, List.set_cons_succ]
              refine wpL_val ?v128 rfl (by rfl) (fun wq hq => ?y128) ?z128
              case y128 => go_simp; with_reducible rfl
              try simp only [Act.put, List.setIfInBounds_toArray, List.set_cons_zero, List.set_cons_succ]
              refine wpL_nil ?_
              intro wz hwz
              have hBz : Below A w wz := hBw.trans (hwz.mono (by have := hBw.size; omega))
              clear hwz hBw rv sv
              go_upto_region 13 with (fail)
              refine wp_region_listed 13 [] (Below wz.heap.size wz) (by decide) (Stable.below wz) (Below.refl _ _) ?_
              simp only [List.range, List.range.loop, opsOf, List.getElem?_cons_succ, List.getElem?_cons_zero, List.drop_succ_cons, List.drop_zero]
              refine wpL_val ?v131 rfl (by rfl) (fun wq hq => ?y131) ?z131
              case y131 => go_simp; with_reducible rfl
              try simp only [Act.put, List.setIfInBounds_toArray, List.set_cons_zero, List.set_cons_succ]
              refine wpL_val ?v132 rfl (by rfl) (fun wq hq => ?y132) ?z132
              case y132 => go_simp; with_reducible rfl
              try simp only [Act.put, List.setIfInBounds_toArray, List.set_cons_zero, List.set_cons_succ]
              refine wpL_val ?v133 rfl (by rfl) (fun wq hq => ?y133) ?z133
              case y133 => go_simp; with_reducible rfl
              try simp only [Act.put, List.setIfInBounds_toArray, List.set_cons_zero, List.set_cons_succ]
              refine wpL_val ?v134 rfl (by rfl) (fun wq hq => ?y134) ?z134
              case y134 => go_simp; with_reducible rfl
              try simp only [Act.put, List.setIfInBounds_toArray, List.set_cons_zero, List.set_cons_succ]
              refine wpL_val (.bool true) rfl (by rfl) (fun wq hq => quiet_sneq 9 (.tmp 140) (.tmp 141) _ rfl (bs X) (bs Y) rfl rfl HNE.out) ?_
              try simp only [Act.put, List.setIfInBounds_toArray, List.set_cons_zero, List.set_cons_succ]
              refine wpL_val ?v136 rfl (by rfl) (fun wq hq => ?y136) ?z136
              case y136 => go_simp; with_reducible rfl
              try simp only [Act.put, List.setIfInBounds_toArray, List.set_cons_zero, List.set_cons_succ]
              refine wpL_val ?v137 rfl (by rfl) (fun wq hq => ?y137) ?z137
              case y137 => go_simp; with_reducible rfl
              try simp only [Act.put, List.setIfInBounds_toArray, List.set_cons_zero, List.set_cons_succ]
              refine wpL_val ?v138 rfl (by rfl) (fun wq hq => ?y138) ?z138
              case y138 => go_simp; with_reducible rfl
              try simp only [Act.put, List.setIfInBounds_toArray, List.set_cons_zero, List.set_cons_succ]
              refine wpL_val ?v139 rfl (by rfl) (fun wq hq => ?y139) ?z139
              case y139 => go_simp; exact sumR_any X (by omega) _
              try simp only [Act.put, List.setIfInBounds_toArray, List.set_cons_zero, List.set_cons_succ]
              refine wpL_val ?v140 rfl (by rfl) (fun wq hq => ?y140) ?z140
              case y140 => go_simp; with_reducible rfl
              try simp only [Act.put, List.setIfInBounds_toArray, List.set_cons_zero, List.set_cons_succ]
              refine wpL_val ?v141 rfl (by rfl) (fun wq hq => ?y141) ?z141
              case y141 => go_simp; exact sumR_any Y (by omega) _
              try simp only [Act.put, List.setIfInBounds_toArray, List.set_cons_zero, List.set_cons_succ]
              refine wpL_val (.bool true) rfl (by rfl) (fun wq hq => quiet_eql 23 _ _ _ rfl _ _ rfl rfl guardR true ((eqlR (Sha.sum X) (Sha.sum Y) (Sha.sum_length _) (Sha.sum_length _) _ _ rfl rfl wq).trans (by rw [HSUM.out, decide_eq_true rfl]))) ?_
              try simp only [Act.put, List.setIfInBounds_toArray, List.set_cons_zero, List.set_cons_succ]
              refine wpL_val ?v143 rfl (by rfl) (fun wq hq => ?y143) ?z143
              case y143 => go_simp; with_reducible rfl
              try simp only [Act.put, List.setIfInBounds_toArray, List.set_cons_zero, List.set_cons_succ]
              refine wpL_nil ?_
              intro wy hwy
              go_wp2_with fail
              go_ret
              exact ⟨rfl, by (try rw [hAe]); exact hBz.trans (hwy.mono (by have := hBz.size; omega))⟩
  · have hd30 : decide ((30 : Int) < (m : Int)) = true := decide_eq_true (by omega)
    refine wp_region_listed 7 [] (Below w0.heap.size w0) (by decide) (Stable.below w0) (Below.refl _ _) ?_
    simp only [List.range, List.range.loop, opsOf, List.getElem?_cons_succ, List.getElem?_cons_zero, List.drop_succ_cons, List.drop_zero]
    refine wpL_val ?v146 rfl (by rfl) (fun wq hq => ?y146) ?z146
    case y146 => go_simp; exact known_any _ (Hk0.out.below hq (by omega))
    try simp only [Act.put, List.setIfInBounds_toArray, List.set_cons_zero, List.set_cons_succ]
    refine wpL_val ?v147 rfl (by rfl) (fun wq hq => ?y147) ?z147
    case y147 => go_simp; with_reducible rfl
    try simp only [Act.put, List.setIfInBounds_toArray, List.set_cons_zero, List.set_cons_succ]
    refine wpL_val ?v148 rfl (by rfl) (fun wq hq => ?y148) ?z148
    case y148 => go_simp; with_reducible rfl
    try simp only [Act.put, List.setIfInBounds_toArray, List.set_cons_zero, List.set_cons_succ]
    refine wpL_val ?v149 rfl (by rfl) (fun wq hq => ?y149) ?z149
    case y149 => go_simp; with_reducible rfl
    try simp only [Act.put, List.setIfInBounds_toArray, List.set_cons_zero, List.set_cons_succ]
    refine wpL_val ?v150 rfl (by rfl) (fun wq hq => ?y150) ?z150
    case y150 => have c34 := (hq.cell (p := ⟨A, 34, none⟩) hAl).trans hc34; go_simp; with_reducible rfl
    try simp only [Act.put, List.setIfInBounds_toArray, List.set_cons_zero, List.set_cons_succ]
    refine wpL_val ?v151 rfl (by rfl) (fun wq hq => ?y151) ?z151
    case y151 => go_simp; with_reducible rfl
    try simp only [Act.put, List.setIfInBounds_toArray, List.set_cons_zero, List.set_cons_succ]
    refine wpL_val ?v152 rfl (by rfl) (fun wq hq => ?y152) ?z152
    case y152 => go_simp; with_reducible rfl
    try simp only [Act.put, List.setIfInBounds_toArray, List.set_cons_zero, List.set_cons_succ]
    refine wpL_nil ?_
    intro w1 hw1
    go_wp2_with fail
    refine (known_any _ (Hk0.out.below hw1 (by omega))).mono ?_
    rintro e w2 ⟨rfl, hb2⟩
    go_wp2_with fail
    go_ret
    exact ⟨rfl, by rw [hAe]; exact (hW0.trans (hw1.mono (by omega))).trans (hb2.mono (by have := hw1.size; omega))⟩
end Go.Proofs.YteehpfccegnjjaaDoor
