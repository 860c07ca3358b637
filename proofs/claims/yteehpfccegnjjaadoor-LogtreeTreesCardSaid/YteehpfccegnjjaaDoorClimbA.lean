/-
  Laws for the walk of climb: a store of a row and an append within a class walk, pairs of digests, three results.
-/
import Derived.Test.YteehpfccegnjjaaDoorFromR
namespace Go.Proofs.YteehpfccegnjjaaDoor
open Go Go.RowKit
section
variable {P : Program} {ops : Array Oper} {E : World → Prop} {o : Oper} {a : Act}
theorem Stable.belowAt {w0 : World} {B : Nat} (hB : B ≤ w0.heap.size) : Stable (Below B w0) := fun _ _ h hb => h.trans (hb.mono (Nat.le_trans hB h.size))
theorem wpL_store {al : List Nat} {Q : (World → Prop) → Act → Prop} {rest : List (Nat × Oper)} {k : Nat} {D : World → Prop} (hal : al.contains k = true)
    (hw : Region.wanted o (yielded ops a.tmps) = true) (ty : TypeId) (x y : Operand) (ho : o.op = .store ty x y) (g : Nat) (cells : Array Value) (hx : a.eval x = .pointer (some ⟨g, 0, none⟩)) (hy : a.eval y = .agg cells)
    (t : TypeId) (old : Array Value) (hg : ∀ w, D w → w.heap[g]? = some (.cells old t (0, 0))) (hi : (P.info? ty).map (·.size) = some cells.size) (hold : old.size = cells.size) (h1 : cells.all (·.oneCell') = true)
    (hE : Stable E) (hDE : ∀ w, D w → E (w.setRow g cells))
    (h : wpL P ops E al Q rest (fun w' => ∃ w, D w ∧ Below (w.setRow g cells).heap.size (w.setRow g cells) w') (a.put o.dst undef)) : wpL P ops E al Q ((k, o) :: rest) D a := by
  unfold wpL
  rw [if_pos hal]
  refine ⟨hw, Unit, fun _ => undef, fun _ w' => ∃ w, D w ∧ Below (w.setRow g cells).heap.size (w.setRow g cells) w', fun _ => ⟨?_, ?_⟩, fun w hw' => ?_, fun _ => h⟩
  · rintro w1 w2 ⟨w, hD, hb⟩ hb2
    exact ⟨w, hD, hb.trans (hb2.mono hb.size)⟩
  · rintro w1 ⟨w, hD, hb⟩
    exact hE _ _ (hDE w hD) hb
  · unfold genAt execOp
    simp only [ho, hx, hy, Instr.storeAt, Instr.sureAddr, Sem.run_bind, Sem.run_pure, Result.andThen_ok, run_storeVar_row w g t ty old cells (hg w hw') hi hold h1, genUpon]
    exact ⟨(), by trivial, w, hw', Below.refl _ _⟩
/-- The facts on an element type of so many cells. -/
def IS (P : Program) (e : TypeId) (sz : Nat) : Prop := ∃ i z, P.info? e = some i ∧ i.zero = some z ∧ i.size = sz ∧ i.bytes = sz ∧ z.cells.size = sz
theorem IS.of {e : TypeId} {sz : Nat} (h : (P.info? e).map (fun i => (i.size, i.bytes, i.zero.map (·.cells.size))) = some (sz, sz, some sz)) : IS P e sz := by
  cases hi : P.info? e with
  | none => simp [hi] at h
  | some i =>
    simp only [hi, Option.map_some, Option.some.injEq, Prod.mk.injEq] at h
    cases hz : i.zero with
    | none => simp [hz] at h
    | some z => exact ⟨i, z, by first | rfl | exact hi, by first | rfl | exact hz, h.1, h.2.1, by simpa [hz] using h.2.2⟩
theorem run_bsS {w : World} (sz : Nat) (hsz : 0 < sz) (hs64 : sz ≤ 64) (t e : TypeId) (len : Nat) (parts : Array (Nat × Operand)) (ho : o.op = .buildSlice t len parts) (vs : List Value)
    (hvs : (parts.toList.map fun x => (x.1, a.eval x.2)) = (vs.zipIdx 0).map fun x => (x.2, x.1)) (h1 : ∀ v ∈ vs, v.cells.size = sz) (hlen : vs.length = len) (hpos : 0 < len) (hsm : len ≤ 100)
    (hu : P.underlying t = some (.slice e)) (hI : IS P e sz) : (execOp a.eval o).run P w = .ok (.value (.slice (some ⟨w.heap.size, 0, none⟩) len len)) (w.alloc (.cells (vs.flatMap fun v => v.cells.toList).toArray e)) := by
  obtain ⟨i, z, hi, hz, hs, _, _⟩ := hI
  have hm : len * sz ≤ 100 * 64 := Nat.mul_le_mul hsm hs64
  have hp : 0 < len * sz := Nat.mul_pos hpos hsz
  unfold execOp
  simp only [ho, Sem.run_bind, run_buildSlice w t e len _ (vs.flatMap fun v => v.cells.toList).toArray i z hu hi hz (by rw [hs]; omega) (by rw [hs]; omega) (by
    rw [Array.toList_map, show (parts.toList.map fun (i, x) => (i, a.eval x)) = (vs.zipIdx 0).map fun x => (x.2, x.1) from hvs, hs]
    exact Great.fill_whole hsz vs _ h1 (by simp [hlen])), Result.andThen_ok]
  rfl
theorem wpL_appS {al : List Nat} {Q : (World → Prop) → Act → Prop} {rest : List (Nat × Oper)} {k : Nat} {D : World → Prop} (sz : Nat) (hs64 : sz ≤ 64) (hal : al.contains k = true)
    (hw : Region.wanted o (yielded ops a.tmps) = true) (s x : Operand) (t : TypeId) (ho : o.op = .call { callee := .builtin .append, args := #[s, x], argTypes := #[t, t] })
    (base : Nat) (e : TypeId) (hI : IS P e sz) (ht : P.underlying t = some (.slice e)) (v : Value) (n : Nat) (xs : List Value) (hs : a.eval s = v)
    (ad : Addr) (c : Nat) (news : List Value) (hx : a.eval x = .slice (some ad) 1 c) (hl : news.length = sz) (h1 : ∀ u ∈ news, u.oneCell' = true) (hn : n ≤ 1048576)
    (hEs : Stable E) (hEg : ∀ w w', E w → w.grownBy w' v.ownBlock → E w')
    (hD : ∀ w, D w → E w ∧ Own w base e sz v n xs ∧ base ≤ w.heap.size ∧ ∀ j u, news[j]? = some u → w.cell? (ad.add j) = some u)
    (h : ∀ v' w1 w, D w → Appended w base e sz v (n + 1) (xs ++ news) v' w1 → wpL P ops E al Q rest (fun w3 => Below w1.heap.size w1 w3) (a.put o.dst v')) : wpL P ops E al Q ((k, o) :: rest) D a := by
  unfold wpL
  rw [if_pos hal]
  refine ⟨hw, { p : Value × World // ∃ w, D w ∧ Appended w base e sz v (n + 1) (xs ++ news) p.1 p.2 }, fun p => p.1.1, fun p => Below p.1.2.heap.size p.1.2, fun p => ⟨Stable.below _, fun w3 h3 => ?_⟩, fun w hw' => ?_, fun p => ?_⟩
  · obtain ⟨⟨v', w1⟩, w, hDw, hA⟩ := p
    exact hEs _ _ (hEg _ _ (hD w hDw).1 hA.2.1) h3
  · obtain ⟨i, z, hi, hz, hsz, hb, hzs⟩ := hI
    obtain ⟨_, hO, hbase, hnews⟩ := hD w hw'
    have hmul : (n + 1) * sz ≤ (1048576 + 1) * 64 := Nat.mul_le_mul (by omega) hs64
    obtain ⟨v', w1, hr, hA⟩ := run_append (P := P) w base t o.type e i z sz sz ht hi hz hsz hb hzs v n xs hO ad 1 c news (by omega) hnews h1 (by unfold maxLen; omega) (by omega) hbase
    unfold genAt execOp
    simp only [ho, resolve, invoke, builtin, Sem.run_bind, Sem.run_pure, Result.andThen_ok, List.map_toArray, List.map_cons, List.map_nil, hs, hx, hr]
    exact ⟨⟨(v', w1), w, hw', hA⟩, rfl, Below.refl _ _⟩
  · obtain ⟨⟨v', w1⟩, w, hDw, hA⟩ := p
    exact h v' w1 w hDw hA
theorem results_tct {fn : Func} {p u v : Tmp} {ty : TypeId} (h : fn.results = #[.tmp v, .cell p ty, .tmp u]) (tmps : Array Value) (w : World) :
    (results fn tmps).run P w = ((asAddr (tmps.getD p undef)).run P w).andThen fun a w₁ => ((loadVar ty a).run P w₁).andThen fun x w₂ => .ok (.tuple #[tmps.getD v undef, x, tmps.getD u undef]) w₂ := by
  simp only [results, h]
  simp [Sem.run_bind, Result.andThen]
theorem results_trt {fn : Func} {p u v : Tmp} {ty : TypeId} (h : fn.results = #[.tmp v, .cell p ty, .tmp u]) (tmps : Array Value) (w : World) (g : Nat) (t : TypeId) (cs : Array Value) (fr : Nat × Nat) (d : TypeDesc) (z y : Value)
    (hp : tmps.getD p undef = .pointer (some ⟨g, 0, none⟩)) (hz : tmps.getD u undef = z) (hy : tmps.getD v undef = y) (hg : w.heap[g]? = some (.cells cs t fr))
    (hu : P.underlying ty = some d) (hd : (match d with | .struct _ | .array _ _ => true | _ => false) = true) (hi : (P.info? ty).map (·.size) = some cs.size) :
    (results fn tmps).run P w = .ok (.tuple #[y, .agg cs, z]) w := by
  rw [results_tct h, hp, hz, hy]
  simp [asAddr, run_loadVar_row w g t ty cs fr d hg hu hd hi]
theorem fill_congr {p q : Nat → Option (Nat × Nat)} : ∀ (parts : List (Nat × Value)) (cells : Array Value), (∀ x ∈ parts, p x.1 = q x.1) → Instr.fill p cells parts = Instr.fill q cells parts
  | [], _, _ => rfl
  | (i, v) :: r, cells, h => by
    simp only [Instr.fill, h (i, v) (by simp)]
    cases q i with
    | none => rfl
    | some x =>
      simp only
      split
      · rfl
      · exact fill_congr r _ fun x hx => h x (by simp [hx])
end
theorem i64P : IS Tryd.prog 93 64 := IS.of (by kernel_rfl)
theorem places93 : (match Tryd.prog.info? 93, Tryd.prog.underlying 93 with
    | some it, some (.struct fs) => some (it.zero.map (·.cells.size), fs.toList.mapM (fun f => (Tryd.prog.info? f.type).map fun i => (f.offset, i.size)))
    | _, _ => none) = some (some 64, some [(0, 32), (32, 32)]) := by kernel_rfl
theorem built_pair (la lb : List Value) (ha : la.length = 32) (hb : lb.length = 32) : Tryd.prog.built 93 [(0, .agg la.toArray), (1, .agg lb.toArray)] = some (la ++ lb).toArray := by
  have h := places93
  unfold Program.built
  split at h
  · rename_i it fs hi hu
    rw [hi, hu]
    simp only [Option.some.injEq, Prod.mk.injEq] at h
    obtain ⟨h1, h2⟩ := h
    cases hz : it.zero with
    | none => simp [hz] at h1
    | some z =>
      simp only [hz, Option.map_some, Option.some.injEq] at h1
      simp only [h2, hz]
      rw [fill_congr (q := fun i => some (i * 32, 32)) _ _ (by intro x hx; simp at hx; rcases hx with rfl | rfl <;> rfl)]
      have := Great.fill_whole (s := 32) (by decide) [.agg la.toArray, .agg lb.toArray] z.cells (by intro v hv; simp at hv; rcases hv with rfl | rfl; (show la.toArray.size = 32; rw [List.size_toArray]; exact ha); (show lb.toArray.size = 32; rw [List.size_toArray]; exact hb)) (by rw [h1]; rfl)
      simpa [Value.cells] using this
  · simp at h
section
variable {ops : Array Oper} {rest : List Oper} {o : Oper} {a : Act} {w : World} {Q : Exit → Act → World → Prop}
theorem at_bd {P : Program} (t : TypeId) (parts : Array (Nat × Operand)) {d : Option Tmp} {ty : TypeId} {p : String} {af : Array Edge} {g : Option (Nat × Bool)}
    (h : wpList P ops Q (⟨d, .build t parts, ty, p, af, g⟩ :: rest) a w) : wpList P ops Q (⟨d, .build t parts, ty, p, af, g⟩ :: rest) a w := h
theorem wpList_bp (hg : o.guard = none) (x y : Operand) (ho : o.op = .build 93 #[(0, x), (1, y)]) (la lb : List Value) (ha : la.length = 32) (hb : lb.length = 32) (hx : a.eval x = .agg la.toArray) (hy : a.eval y = .agg lb.toArray)
    (h : wpList Tryd.prog ops Q rest (a.put o.dst (.agg (la ++ lb).toArray)) w) : wpList Tryd.prog ops Q (o :: rest) a w :=
  wpList_plain hg fun _ hK => by
    have hbp : Tryd.prog.built 93 ((#[(0, x), (1, y)] : Array (Nat × Operand)).map fun (i, x) => (i, a.eval x)).toList = some (la ++ lb).toArray := by
      rw [Array.toList_map]
      show Tryd.prog.built 93 [(0, a.eval x), (1, a.eval y)] = _
      rw [hx, hy]
      exact built_pair la lb ha hb
    unfold Oper.wp execOp
    simp only [ho, Sem.run_bind, run_build w 93 _ _ hbp, Result.andThen_ok]
    exact hK _ _ h
end
/-- All but these blocks is as it was. -/
structure But (w1 : World) (S : Nat → Prop) (w : World) : Prop where
  os : w.os = w1.os
  tape : w.tape = w1.tape
  output : w.output = w1.output
  size : w1.heap.size ≤ w.heap.size
  block : ∀ k, k < w1.heap.size → ¬ S k → w.heap[k]? = w1.heap[k]?
theorem But.stable (w1 : World) (S : Nat → Prop) : Stable (But w1 S) := fun _ _ h hb =>
  ⟨hb.os.trans h.os, hb.tape.trans h.tape, hb.output.trans h.output, Nat.le_trans h.size hb.size, fun k hk hs => (hb.block k (Nat.lt_of_lt_of_le hk h.size)).trans (h.block k hk hs)⟩
theorem But.of {w1 w : World} {S : Nat → Prop} (h : Below w1.heap.size w1 w) : But w1 S w := ⟨h.os, h.tape, h.output, h.size, fun k hk _ => h.block k hk⟩
theorem But.grown {w1 w w' : World} {S : Nat → Prop} {row : Option Nat} (h : But w1 S w) (hg : w.grownBy w' row) (hr : ∀ k, some k = row → S k) : But w1 S w' :=
  ⟨hg.os.trans h.os, hg.tape.trans h.tape, hg.output.trans h.output, Nat.le_trans h.size hg.size, fun k hk hs => (hg.block k (Nat.lt_of_lt_of_le hk h.size) (fun e => hs (hr k e))).trans (h.block k hk hs)⟩
theorem But.row {w1 w : World} {S : Nat → Prop} (h : But w1 S w) {g : Nat} (hg : S g ∨ w1.heap.size ≤ g) (cs : Array Value) : But w1 S (w.setRow g cs) :=
  ⟨h.os, h.tape, h.output, by simpa [World.setRow] using h.size, fun k hk hs => (Go.setRow_other w g k cs (fun e => by subst e; rcases hg with hg | hg; exact hs hg; omega)).trans (h.block k hk hs)⟩
theorem But.arr {w1 w : World} {S : Nat → Prop} (h : But w1 S w) {g : Nat} {T : TypeId} {l : List Value} (hA : Arr w1 g T l) (hs : ¬ S g) : Arr w g T l := by
  unfold Arr
  rw [h.block g hA.lt hs]
  exact hA
end Go.Proofs.YteehpfccegnjjaaDoor
