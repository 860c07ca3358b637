/-
  Laws for the walk of LogtreeCollides: structs that are built of parts of any sizes, calls that make memory, a byte that is changed.
-/
import Derived.Test.YteehpfccegnjjaaDoorColl
namespace Go.Proofs.YteehpfccegnjjaaDoor
open Go Go.RowKit
theorem fill_mixed (pl : Nat → Option (Nat × Nat)) : ∀ (vs : List Value) (k : Nat) (pre rest : List Value),
    (∀ j v, vs[j]? = some v → pl (k + j) = some (pre.length + ((vs.take j).flatMap fun v => v.cells.toList).length, v.cells.size)) → (vs.flatMap fun v => v.cells.toList).length ≤ rest.length →
    Instr.fill pl (pre ++ rest).toArray ((vs.zipIdx k).map fun x => (x.2, x.1)) = some (pre ++ (vs.flatMap fun v => v.cells.toList) ++ rest.drop (vs.flatMap fun v => v.cells.toList).length).toArray
  | [], k, pre, rest, _, _ => by simp [Instr.fill]
  | v :: vs, k, pre, rest, h, hl => by
    have h0 : pl k = some (pre.length, v.cells.size) := by simpa using h 0 v rfl
    rw [List.flatMap_cons, List.length_append, Array.length_toList] at hl
    have hfold : v.cells.zipIdx.foldl (fun cs (x : Value × Nat) => cs.setIfInBounds (pre.length + x.2) x.1) (pre ++ rest).toArray = ((pre ++ v.cells.toList) ++ rest.drop v.cells.size).toArray := by
      obtain ⟨g1, g2⟩ := Great.foldl_set pre.length v.cells.toList 0 (pre ++ rest).toArray
      rw [← Array.foldl_toList, Array.toList_zipIdx]
      apply Array.ext_getElem?
      intro j
      rw [g2 j]
      simp only [Nat.add_zero, Array.length_toList, List.size_toArray, List.length_append, List.getElem?_toArray]
      by_cases h1 : j < pre.length
      · rw [if_neg (by omega), List.append_assoc, List.getElem?_append_left h1, List.getElem?_append_left h1]
      · by_cases h2 : j < pre.length + v.cells.size
        · rw [if_pos (by omega), List.append_assoc, List.getElem?_append_right (by omega), List.getElem?_append_left (by simp; omega)]
        · rw [if_neg (by omega), List.append_assoc, List.getElem?_append_right (by omega), List.getElem?_append_right (by omega), List.getElem?_append_right (by simp; omega), List.getElem?_drop]
          congr 1
          simp; omega
    have ih := fill_mixed pl vs (k + 1) (pre ++ v.cells.toList) (rest.drop v.cells.size) (fun j u hj => by
      have := h (j + 1) u (by simpa using hj)
      rw [show k + 1 + j = k + (j + 1) by omega, this]
      simp [List.flatMap_cons]; omega) (by rw [List.length_drop]; omega)
    simp only [List.zipIdx_cons, List.map_cons, Instr.fill, h0]
    rw [if_neg (by simp; omega)]
    rw [show (fun (x : Array Value) (x_1 : Value × Nat) => x.setIfInBounds (pre.length + x_1.2) x_1.1) = (fun cs (x : Value × Nat) => cs.setIfInBounds (pre.length + x.2) x.1) from rfl, hfold, ih]
    simp [List.flatMap_cons, List.append_assoc, List.drop_drop]
section
variable {P : Program}
/-- The places of a struct's fields: its cells, and each field's offset and size. -/
def placesOf (P : Program) (T : TypeId) : Option (Option Nat × Option (List (Nat × Nat))) :=
  match P.info? T, P.underlying T with
  | some it, some (.struct fs) => some (it.zero.map (·.cells.size), fs.toList.mapM (fun f => (P.info? f.type).map fun i => (f.offset, i.size)))
  | _, _ => none
theorem built_mixed (T : TypeId) (tot : Nat) (pl : List (Nat × Nat)) (h : placesOf P T = some (some tot, some pl)) (vs : List Value)
    (hp : ∀ j v, vs[j]? = some v → pl[j]? = some (((vs.take j).flatMap fun v => v.cells.toList).length, v.cells.size)) (ht : (vs.flatMap fun v => v.cells.toList).length = tot) :
    P.built T ((vs.zipIdx 0).map fun x => (x.2, x.1)) = some (vs.flatMap fun v => v.cells.toList).toArray := by
  unfold placesOf at h
  unfold Program.built
  split at h
  · rename_i it fs hi hu
    rw [hi, hu]
    simp only [Option.some.injEq, Prod.mk.injEq] at h
    obtain ⟨h1, h2⟩ := h
    cases hz : it.zero with
    | none => simp [hz] at h1
    | some z =>
      simp only [hz, Option.map_some, Option.some.injEq] at h1
      simp only [h2, hz]
      have := fill_mixed (fun i => pl.toArray[i]?) vs 0 [] z.cells.toList (fun j v hj => by simpa using hp j v hj) (Nat.le_of_eq (by rw [ht, Array.length_toList, h1]))
      rw [List.nil_append, Array.toArray_toList] at this
      rw [this, List.nil_append, List.drop_of_length_le (Nat.le_of_eq (by rw [ht, Array.length_toList, h1])), List.append_nil]
  · cases h
theorem quiet_build2 {C : World → Prop} {o : Oper} {a : Act} {w : World} (T : TypeId) (x y : Operand) (ho : o.op = .build T #[(0, x), (1, y)]) (u v : Value) (hx : a.eval x = u) (hy : a.eval y = v)
    (cells : Array Value) (h : P.built T [(0, u), (1, v)] = some cells) : o.quietAt P a C w (.agg cells) := by
  refine quiet_run ?_
  unfold execOp
  have h' : P.built T ((#[(0, x), (1, y)] : Array (Nat × Operand)).map fun (i, x) => (i, a.eval x)).toList = some cells := by
    rw [Array.toList_map]
    show P.built T [(0, a.eval x), (1, a.eval y)] = _
    rw [hx, hy, h]
  simp only [ho, Sem.run_bind, run_build w T _ _ h', Result.andThen_ok]
  rfl
theorem quiet_build4 {C : World → Prop} {o : Oper} {a : Act} {w : World} (T : TypeId) (x y z s : Operand) (ho : o.op = .build T #[(0, x), (1, y), (2, z), (3, s)]) (u v t r : Value) (hx : a.eval x = u) (hy : a.eval y = v) (hz : a.eval z = t) (hs : a.eval s = r)
    (cells : Array Value) (h : P.built T [(0, u), (1, v), (2, t), (3, r)] = some cells) : o.quietAt P a C w (.agg cells) := by
  refine quiet_run ?_
  unfold execOp
  have h' : P.built T ((#[(0, x), (1, y), (2, z), (3, s)] : Array (Nat × Operand)).map fun (i, x) => (i, a.eval x)).toList = some cells := by
    rw [Array.toList_map]
    show P.built T [(0, a.eval x), (1, a.eval y), (2, a.eval z), (3, a.eval s)] = _
    rw [hx, hy, hz, hs, h]
  simp only [ho, Sem.run_bind, run_build w T _ _ h', Result.andThen_ok]
  rfl
variable {ops : Array Oper} {E : World → Prop}
/-- An operation that stands alone and yields a value of which so much is known. -/
theorem wpL_made {al : List Nat} {Q : (World → Prop) → Act → Prop} {o : Oper} {rest : List (Nat × Oper)} {k : Nat} {D : World → Prop} {a : Act} (R0 : Value → Prop) (R : Value → World → Prop) (hal : al.contains k = true)
    (hw : Region.wanted o (yielded ops a.tmps) = true) (hD : Stable D) (hE : ∀ w, D w → E w) (hR : ∀ v, Stable (R v)) (hy : ∀ w, D w → genAt P o a w fun v w' => R0 v ∧ R v w' ∧ Below w.heap.size w w')
    (h : ∀ v, R0 v → wpL P ops E al Q rest (fun w => D w ∧ R v w) (a.put o.dst v)) : wpL P ops E al Q ((k, o) :: rest) D a := by
  unfold wpL
  rw [if_pos hal]
  refine ⟨hw, { v : Value // R0 v }, fun x => x.1, fun x w => D w ∧ R x.1 w, fun x => ⟨fun w w' h1 hb => ⟨hD _ _ h1.1 hb, hR _ _ _ h1.2 hb⟩, fun w h1 => hE w h1.1⟩, fun w hw' => ?_, fun x => h x.1 x.2⟩
  have h1 := hy w hw'
  unfold genAt at h1 ⊢
  generalize (execOp a.eval o).run P w = r at *
  cases r with
  | ok n w' =>
    cases n <;> simp only [genUpon] at h1 ⊢
    case value v => exact ⟨⟨v, h1.1⟩, rfl, hD _ _ hw' h1.2.2, h1.2.1⟩
    case skip => exact ⟨⟨undef, h1.1⟩, rfl, hD _ _ hw' h1.2.2, h1.2.1⟩
    case enter f args => exact h1.mono fun e w'' ⟨v, h3, h4, h5, h6⟩ => ⟨v, h3, ⟨v, h4⟩, rfl, hD _ _ hw' h6, h5⟩
  | halt x w' => simp only [genUpon] at h1
/-- An append that stands alone, by what is known of its run. -/
theorem wpL_appR {al : List Nat} {Q : (World → Prop) → Act → Prop} {o : Oper} {rest : List (Nat × Oper)} {k : Nat} {D : World → Prop} {a : Act} (hal : al.contains k = true)
    (hw : Region.wanted o (yielded ops a.tmps) = true) (s x : Operand) (t u : TypeId) (ho : o.op = .call { callee := .builtin .append, args := #[s, x], argTypes := #[t, u] })
    (base : Nat) (e : TypeId) (sz : Nat) (v y : Value) (n : Nat) (xs : List Value) (hs : a.eval s = v) (hx : a.eval x = y)
    (hEs : Stable E) (hEg : ∀ w w', E w → w.grownBy w' v.ownBlock → E w') (hDE : ∀ w, D w → E w)
    (hrun : ∀ w, D w → ∃ v' w', (Builtin.append_ #[t, u] o.type #[v, y]).run P w = .ok v' w' ∧ Appended w base e sz v n xs v' w')
    (h : ∀ v' w1 w, D w → Appended w base e sz v n xs v' w1 → wpL P ops E al Q rest (fun w3 => Below w1.heap.size w1 w3) (a.put o.dst v')) : wpL P ops E al Q ((k, o) :: rest) D a := by
  unfold wpL
  rw [if_pos hal]
  refine ⟨hw, { p : Value × World // ∃ w, D w ∧ Appended w base e sz v n xs p.1 p.2 }, fun p => p.1.1, fun p => Below p.1.2.heap.size p.1.2, fun p => ⟨Stable.below _, fun w3 h3 => ?_⟩, fun w hw' => ?_, fun p => ?_⟩
  · obtain ⟨⟨v', w1⟩, w, hDw, hA⟩ := p
    exact hEs _ _ (hEg _ _ (hDE w hDw) hA.2.1) h3
  · obtain ⟨v', w1, hr, hA⟩ := hrun w hw'
    unfold genAt execOp
    simp only [ho, resolve, invoke, builtin, Sem.run_bind, Sem.run_pure, Result.andThen_ok, List.map_toArray, List.map_cons, List.map_nil, hs, hx, hr]
    exact ⟨⟨(v', w1), w, hw', hA⟩, rfl, Below.refl _ _⟩
  · obtain ⟨⟨v', w1⟩, w, hDw, hA⟩ := p
    exact h v' w1 w hDw hA
/-- append(v, x...), x a slice of digests that came in or was made. -/
theorem run_append_digs (w : World) (base : Nat) (t ty e : TypeId) (hI : I32 P e) (ht : P.underlying t = some (.slice e)) (v : Value) (n : Nat) (xs : List Value) (hown : Own w base e 32 v n xs) (x : Value) (ds : List (List UInt8)) (hx : Digs w x ds)
    (hn : n + ds.length ≤ 1048576) (hbase : base ≤ w.heap.size) : ∃ v' w', (Builtin.append_ #[t, t] ty #[v, x]).run P w = .ok v' w' ∧ Appended w base e 32 v (n + ds.length) (xs ++ flat ds) v' w' := by
  obtain ⟨i, z, hi, hz, hsz, hb, hzs⟩ := hI
  rcases hx.lies with ⟨rfl, a, c, rfl⟩ | ⟨g, o, c, rfl, hc, hg, hr⟩
  · refine ⟨v, w, ?_, ?_⟩
    · rcases hown.2 with ⟨rfl, rfl⟩ | ⟨g, cap, cur, fr, rfl, hbg, hg, hcs, hnc, hcm, hf, htake⟩
      · cases a <;> simp [Builtin.append_, run_underlying ht, sizeOf, typeInfo, hi, Builtin.lenOf, Builtin.firstCells, loadCells, loadCellsFrom]
      · cases a <;> simp [Builtin.append_, run_underlying ht, sizeOf, typeInfo, hi, Builtin.lenOf, Builtin.firstCells, loadCells, loadCellsFrom, hnc, storeCells]
    · simp only [List.length_nil, Nat.add_zero, flat, List.flatMap_nil, List.append_nil]
      exact ⟨hown, ⟨⟨rfl, rfl, rfl, Nat.le_refl _, fun _ _ _ => rfl⟩, .inl rfl⟩⟩
  · refine run_append (P := P) w base t ty e i z 32 32 ht hi hz hsz hb hzs v n xs hown ⟨g, o, none⟩ ds.length c (flat ds) (flat_len ds hx.all) (fun j u hj => ?_) (fun u hu => ?_) (by unfold maxLen; omega) (by omega) hbase
    · have hlt : j < ds.length * 32 := by rw [← flat_len ds hx.all]; exact (List.getElem?_eq_some_iff.1 hj).1
      have hd : j / 32 < ds.length := by omega
      have e1 : j = j / 32 * 32 + j % 32 := by omega
      rw [e1, flat_get ds hx.all (j / 32) (j % 32) hd (by omega)] at hj
      have := hr (j / 32) hd (j % 32) u hj
      rw [Addr.add_lit, show o + j = o + j / 32 * 32 + j % 32 by omega]
      exact this
    · obtain ⟨d, _, hu⟩ := List.mem_flatMap.1 hu
      obtain ⟨b, _, rfl⟩ := List.mem_map.1 hu
      rfl
end
theorem wrap_u8 (n : Nat) (h : n < 256) : IntKind.u8.wrap (n : Int) = (n : Int) := by
  simp [IntKind.wrap, IntKind.bits, IntKind.signed]; omega
theorem b_xor (x y : UInt8) : bits .xor .u8 (x.toNat : Int) (y.toNat : Int) = ((x ^^^ y).toNat : Int) := by
  unfold bits
  simp [IntKind.bits]
  exact wrap_u8 _ (x ^^^ y).toNat_lt
def spoil1 (l : List UInt8) (k : Nat) (b : UInt8) : List UInt8 := l.set k (l.getD k 0 ^^^ b)
theorem spoil1_length (l : List UInt8) (k : Nat) (b : UInt8) : (spoil1 l k b).length = l.length := by simp [spoil1]
theorem spoil1_zero (l : List UInt8) (k : Nat) : spoil1 l k 0 = l := by
  unfold spoil1
  apply List.ext_getElem?
  intro j
  rw [List.getElem?_set]
  split
  · rename_i h; subst h
    split
    · rename_i h; simp [h]
    · rename_i h; rw [List.getElem?_eq_none (by omega)]
  · rfl
theorem u8_xor_self (x b : UInt8) (h : x ^^^ b = x) : b = 0 := by
  have := congrArg (fun y => x ^^^ y) h
  simpa [← UInt8.xor_assoc] using this
theorem spoil1_ne (l : List UInt8) (k : Nat) (b : UInt8) (hk : k < l.length) (hb : b ≠ 0) : spoil1 l k b ≠ l := fun h => by
  have := congrArg (fun m => m.getD k 0) h
  simp [spoil1, hk] at this
  exact hb (u8_xor_self _ _ this)
theorem spoil1_map (l : List UInt8) (k : Nat) (b : UInt8) : (spoil1 l k b).map V8 = (l.map V8).set k (V8 (l.getD k 0 ^^^ b)) := by unfold spoil1; rw [List.map_set]
def spoilN (p : List (List UInt8)) (q r : Nat) (b : UInt8) : List (List UInt8) := p.set q (spoil1 (p.getD q []) r b)
theorem spoilN_length (p : List (List UInt8)) (q r : Nat) (b : UInt8) : (spoilN p q r b).length = p.length := by simp [spoilN]
theorem getD_mem_32 (p : List (List UInt8)) (h : ∀ d ∈ p, d.length = 32) (q : Nat) (hq : q < p.length) : (p.getD q []).length = 32 := by
  rw [List.getD_eq_getElem?_getD, List.getElem?_eq_getElem hq]; exact h _ (List.getElem_mem hq)
theorem spoilN_all (p : List (List UInt8)) (h : ∀ d ∈ p, d.length = 32) (q r : Nat) (b : UInt8) (hq : q < p.length) : ∀ d ∈ spoilN p q r b, d.length = 32 := fun d hd => by
  rcases List.mem_or_eq_of_mem_set hd with hd | rfl
  · exact h d hd
  · rw [spoil1_length]; exact getD_mem_32 p h q hq
theorem spoilN_zero (p : List (List UInt8)) (q r : Nat) : spoilN p q r 0 = p := by
  unfold spoilN
  rw [spoil1_zero]
  apply List.ext_getElem?
  intro j
  rw [List.getElem?_set]
  split
  · rename_i h; subst h
    split
    · rename_i h; simp [h]
    · rename_i h; rw [List.getElem?_eq_none (by omega)]
  · rfl
theorem spoilN_ne (p : List (List UInt8)) (h : ∀ d ∈ p, d.length = 32) (q r : Nat) (b : UInt8) (hq : q < p.length) (hr : r < 32) (hb : b ≠ 0) : spoilN p q r b ≠ p := fun he => by
  have := congrArg (fun m => m.getD q []) he
  simp only [spoilN, List.getD_eq_getElem?_getD, List.getElem?_set, hq, if_true, Option.getD_some] at this
  rw [← List.getD_eq_getElem?_getD] at this
  exact spoil1_ne _ r b (by rw [getD_mem_32 p h q hq]; exact hr) hb this
theorem flat_set (p : List (List UInt8)) (h : ∀ d ∈ p, d.length = 32) (q r : Nat) (b : UInt8) (hq : q < p.length) (hr : r < 32) :
    flat (spoilN p q r b) = (flat p).set (q * 32 + r) (V8 ((p.getD q []).getD r 0 ^^^ b)) := by
  have hall := spoilN_all p h q r b hq
  have hl1 := flat_len p h
  have hl2 := flat_len _ hall
  rw [spoilN_length] at hl2
  apply List.ext_getElem?
  intro j
  by_cases hj : j < p.length * 32
  · have e1 : j = j / 32 * 32 + j % 32 := by omega
    rw [List.getElem?_set, e1, flat_get _ hall (j / 32) (j % 32) (by rw [spoilN_length]; omega) (by omega)]
    by_cases hjq : j / 32 = q
    · rw [hjq]
      have e2 : (spoilN p q r b).getD q [] = spoil1 (p.getD q []) r b := by simp [spoilN, hq]
      rw [e2, spoil1_map, List.getElem?_set, List.length_map, getD_mem_32 p h q hq]
      by_cases hjr : r = j % 32
      · subst hjr
        rw [if_pos rfl, if_pos rfl, if_pos hr, if_pos (by rw [hl1]; omega)]
      · rw [if_neg hjr, if_neg (by omega), flat_get p h q (j % 32) hq (by omega)]
    · rw [if_neg (by omega), flat_get p h (j / 32) (j % 32) (by omega) (by omega)]
      congr 2
      simp [spoilN, Ne.symm hjq]
  · rw [List.getElem?_eq_none (by unfold flat; rw [hl2]; omega), List.getElem?_eq_none (by rw [List.length_set]; unfold flat; rw [hl1]; omega)]
theorem Own.set {w : World} {base : Nat} {e : TypeId} {sz : Nat} {n cap g : Nat} {xs : List Value} (h : Own w base e sz (.slice (some ⟨g, 0, none⟩) n cap) n xs) (j : Nat) (u : Value) :
    Own (w.setCell ⟨g, j, none⟩ u) base e sz (.slice (some ⟨g, 0, none⟩) n cap) n (xs.set j u) := by
  obtain ⟨hl, ⟨h0, _⟩ | ⟨g', cap', cur, fr, hv, hb, hg, hc, hnc, hm, hf, ht⟩⟩ := h
  · cases h0
  · simp only [Value.slice.injEq, Option.some.injEq, Addr.mk.injEq, and_true, true_and] at hv
    obtain ⟨rfl, rfl⟩ := hv
    refine ⟨by rw [List.length_set]; exact hl, .inr ⟨g, cap, cur.setIfInBounds j u, fr, rfl, hb, heap_setCell_at w g j cur e fr u hg, by rw [Array.size_setIfInBounds]; exact hc, hnc, hm, ?_, ?_⟩⟩
    · rw [Array.size_setIfInBounds]; exact hf
    · rw [Array.toList_setIfInBounds, List.take_set, ht]
end Go.Proofs.YteehpfccegnjjaaDoor
