/-
  The law's own and back: copies of lists of digests.
-/
import Derived.Test.YteehpfccegnjjaaDoorRoot
import Derived.Great.BuildSlice
namespace Go.Proofs.YteehpfccegnjjaaDoor
open Go Go.RowKit
/-- The slice v, in a block of the call's own, holds these digests. -/
def DMine (w : World) (T : TypeId) (ds : List (List UInt8)) (v : Value) (w' : World) : Prop :=
  w.grownBy w' none ∧ Own w' w.heap.size T 32 v ds.length (ds.flatMap fun d => d.map V8)
theorem flat_get (ds : List (List UInt8)) (h : ∀ d ∈ ds, d.length = 32) (j i : Nat) (hj : j < ds.length) (hi : i < 32) : (ds.flatMap fun d => d.map V8)[j * 32 + i]? = ((ds.getD j []).map V8)[i]? := by
  induction ds generalizing j with
  | nil => simp at hj
  | cons d r ih =>
    have hd := h d (by simp)
    rw [List.flatMap_cons]
    cases j with
    | zero => rw [List.getElem?_append_left (by simp [hd]; omega)]; simp
    | succ j =>
      rw [List.getElem?_append_right (by simp [hd]; omega)]
      simp only [List.length_map, hd]
      rw [show (j + 1) * 32 + i - 32 = j * 32 + i by omega, ih (fun x hx => h x (by simp [hx])) j (by simpa using hj)]
      simp
theorem flat_len (ds : List (List UInt8)) (h : ∀ d ∈ ds, d.length = 32) : (ds.flatMap fun d => d.map V8).length = ds.length * 32 := by
  induction ds with
  | nil => rfl
  | cons d r ih => rw [List.flatMap_cons, List.length_append, ih fun x hx => h x (by simp [hx])]; simp [h d (by simp)]; omega
theorem Own.digs {w : World} {base : Nat} {T : TypeId} {v : Value} {ds : List (List UInt8)} (h : Own w base T 32 v ds.length (ds.flatMap fun d => d.map V8)) (hall : ∀ d ∈ ds, d.length = 32) : Digs w v ds := by
  refine ⟨hall, ?_⟩
  have hx := h.2
  rcases hx with ⟨rfl, h0⟩ | ⟨g, cap, cur, fr, rfl, hb, hg, hc, hn, hm, hf, ht⟩
  · exact .inl ⟨List.eq_nil_of_length_eq_zero h0, _, _, rfl⟩
  · refine .inr ⟨g, 0, cap, rfl, hn, (Array.getElem?_eq_some_iff.1 hg).1, fun j hj i u hu => ?_⟩
    have hi : i < 32 := by
      have h1 := (List.getElem?_eq_some_iff.1 hu).1
      have e : (ds.getD j []).length = 32 := by rw [List.getD_eq_getElem?_getD, List.getElem?_eq_getElem hj]; exact hall _ (List.getElem_mem hj)
      rw [List.length_map, e] at h1
      exact h1
    rw [Nat.zero_add]
    rw [h.cell (j * 32 + i) (by rw [h.1]; omega), flat_get ds hall j i hj hi]
    exact hu
theorem DMine.below {w w' : World} {T : TypeId} {ds : List (List UInt8)} {v : Value} (h : DMine w T ds v w') : Below w.heap.size w w' :=
  ⟨h.1.os, h.1.tape, h.1.output, h.1.size, fun k hk => h.1.block k hk (by simp)⟩
theorem DMine.nil (w : World) (T : TypeId) : DMine w T [] (.slice none 0 0) w := ⟨grownBy_refl w, Own.nil _ _ _ _⟩

theorem DMine.more {w wr wr' w' : World} {T : TypeId} {q : List (List UInt8)} {d : List UInt8} {v v' : Value} {n : Nat} {xs : List Value} (h : DMine w T q v wr) (hn : n = q.length) (hg : wr.grownBy wr' none)
    (hA : Appended wr' w.heap.size T 32 v (n + 1) ((q.flatMap fun d => d.map V8) ++ xs) v' w') (hx : xs = d.map V8) : DMine w T (q ++ [d]) v' w' := by
  subst hn hx
  obtain ⟨h1, h2⟩ := h
  obtain ⟨a1, a2, _⟩ := hA
  refine ⟨⟨a2.os.trans (hg.os.trans h1.os), a2.tape.trans (hg.tape.trans h1.tape), a2.output.trans (hg.output.trans h1.output), Nat.le_trans h1.size (Nat.le_trans hg.size a2.size), fun k hk _ => ?_⟩, by simpa using a1⟩
  have hk1 := Nat.lt_of_lt_of_le hk h1.size
  rw [a2.block k (Nat.lt_of_lt_of_le hk1 hg.size) (fun e => by have := (h2.lt k e.symm).1; omega), hg.block k hk1 (by simp)]
  exact h1.block k hk (by simp)
section
variable {P : Program} {ops : Array Oper} {rest : List Oper} {o : Oper} {a : Act} {w : World} {Q : Exit → Act → World → Prop}
theorem at_bs (t : TypeId) (n : Nat) (parts : Array (Nat × Operand)) {d : Option Tmp} {ty : TypeId} {p : String} {af : Array Edge} {g : Option (Nat × Bool)}
    (h : wpList P ops Q (⟨d, .buildSlice t n parts, ty, p, af, g⟩ :: rest) a w) : wpList P ops Q (⟨d, .buildSlice t n parts, ty, p, af, g⟩ :: rest) a w := h
/-- The facts on an element type of 32 cells. -/
def I32 (P : Program) (e : TypeId) : Prop := ∃ i z, P.info? e = some i ∧ i.zero = some z ∧ i.size = 32 ∧ i.bytes = 32 ∧ z.cells.size = 32
theorem I32.of {e : TypeId} (h : (P.info? e).map (fun i => (i.size, i.bytes, i.zero.map (·.cells.size))) = some (32, 32, some 32)) : I32 P e := by
  cases hi : P.info? e with
  | none => simp [hi] at h
  | some i =>
    simp only [hi, Option.map_some, Option.some.injEq, Prod.mk.injEq] at h
    cases hz : i.zero with
    | none => simp [hz] at h
    | some z => exact ⟨i, z, by first | rfl | exact hi, by first | rfl | exact hz, h.1, h.2.1, by simpa [hz] using h.2.2⟩
theorem run_bs (t e : TypeId) (len : Nat) (parts : Array (Nat × Operand)) (ho : o.op = .buildSlice t len parts) (vs : List Value)
    (hvs : (parts.toList.map fun x => (x.1, a.eval x.2)) = (vs.zipIdx 0).map fun x => (x.2, x.1)) (h1 : ∀ v ∈ vs, v.cells.size = 32) (hlen : vs.length = len) (hpos : 0 < len) (hsm : len ≤ 100)
    (hu : P.underlying t = some (.slice e)) (hI : I32 P e) : (execOp a.eval o).run P w = .ok (.value (.slice (some ⟨w.heap.size, 0, none⟩) len len)) (w.alloc (.cells (vs.flatMap fun v => v.cells.toList).toArray e)) := by
  obtain ⟨i, z, hi, hz, hs, _, _⟩ := hI
  unfold execOp
  simp only [ho, Sem.run_bind, run_buildSlice w t e len _ (vs.flatMap fun v => v.cells.toList).toArray i z hu hi hz (by rw [hs]; omega) (by rw [hs]; omega) (by
    rw [Array.toList_map, show (parts.toList.map fun (i, x) => (i, a.eval x)) = (vs.zipIdx 0).map fun x => (x.2, x.1) from hvs, hs]
    exact Great.fill_whole (by decide) vs _ h1 (by simp [hlen])), Result.andThen_ok]
  rfl
theorem wpList_bs (hg : o.guard = none) (t e : TypeId) (len : Nat) (parts : Array (Nat × Operand)) (ho : o.op = .buildSlice t len parts) (vs : List Value)
    (hvs : (parts.toList.map fun x => (x.1, a.eval x.2)) = (vs.zipIdx 0).map fun x => (x.2, x.1)) (h1 : ∀ v ∈ vs, v.cells.size = 32) (hlen : vs.length = len) (hpos : 0 < len) (hsm : len ≤ 100)
    (hu : P.underlying t = some (.slice e)) (hI : I32 P e)
    (h : wpList P ops Q rest (a.put o.dst (.slice (some ⟨w.heap.size, 0, none⟩) len len)) (w.alloc (.cells (vs.flatMap fun v => v.cells.toList).toArray e))) : wpList P ops Q (o :: rest) a w :=
  wpList_plain hg fun _ hK => by
    unfold Oper.wp
    rw [run_bs t e len parts ho vs hvs h1 hlen hpos hsm hu hI]
    exact hK _ _ h
theorem wpList_app32 (hgd : o.guard = none) (s x : Operand) (t : TypeId) (ho : o.op = .call { callee := .builtin .append, args := #[s, x], argTypes := #[t, t] })
    (base : Nat) (e : TypeId) (hI : I32 P e) (ht : P.underlying t = some (.slice e))
    (v : Value) (n : Nat) (xs : List Value) (hs : a.eval s = v) (hown : Own w base e 32 v n xs)
    (ad : Addr) (c : Nat) (news : List Value) (hx : a.eval x = .slice (some ad) 1 c) (hl : news.length = 32) (hnews : ∀ j u, news[j]? = some u → w.cell? (ad.add j) = some u) (h1 : ∀ u ∈ news, u.oneCell' = true)
    (hn : n ≤ 1048576) (hbase : base ≤ w.heap.size)
    (h : ∀ v' w', Appended w base e 32 v (n + 1) (xs ++ news) v' w' → wpList P ops Q rest (a.put o.dst v') w') : wpList P ops Q (o :: rest) a w := by
  obtain ⟨i, z, hi, hz, hs', hb, hzs⟩ := hI
  exact wpList_app hgd s x t ho base e i z 32 32 ht hi hz hs' hb hzs v n xs hs hown ad 1 c news hx hl hnews h1 (by unfold maxLen; omega) (by omega) hbase h
end
theorem news_row (w : World) (T : TypeId) (ld : List Value) : ∀ j u, ld[j]? = some u → (w.alloc (.cells ld.toArray T)).cell? ((⟨w.heap.size, 0, none⟩ : Addr).add j) = some u := by
  intro j u hu
  rw [Addr.add_lit, Nat.zero_add, (Arr.new w T ld).cell j, hu]
theorem one_flat (ld : List Value) : (([Value.agg ld.toArray] : List Value).flatMap fun v => v.cells.toList).toArray = ld.toArray := by simp [Value.cells]
theorem i32D : I32 Tryd.prog 24 := I32.of (by kernel_rfl)
theorem i32R : I32 Tryd.prog 23 := I32.of (by kernel_rfl)

set_option maxRecDepth 100000 in
set_option maxHeartbeats 4000000 in
theorem own_any (ds : List (List UInt8)) (v : Value) (w : World) (hmax : ds.length ≤ 1048576) (hV : Digs w v ds) :
    Calls Tryd.prog 14 #[v] w fun e w' => (∃ v', e = .returned v' ∧ Digs w' v' ds) ∧ Below w.heap.size w w' := by
  obtain ⟨av, cv, rfl⟩ := hV.shape
  go_enter Tryd.func14, Tryd.ntmps14
  go_wp2_with fail
  go_loopw [3, 4] (fun v i wr => ∃ k : Nat, k ≤ ds.length ∧ i = .int .i64 k ∧ DMine w 24 (ds.take k) v wr) (fun _ i _ => ds.length - (intOf i).toNat)
  case atStart => exact ⟨0, by omega, rfl, by simpa using DMine.nil w _⟩
  case round =>
    obtain ⟨k, hk, rfl, hR⟩ := hrel
    by_cases hlt : k < ds.length
    · obtain ⟨g, o, cap, hv, hcap, hg, hr⟩ := hV.pos (by omega)
      simp only [Value.slice.injEq] at hv
      obtain ⟨rfl, -, rfl⟩ := hv
      have hr1 := range_below (hr k hlt) hR.below hg
      have hd : (ds.getD k []).length = 32 := by rw [List.getD_eq_getElem?_getD, List.getElem?_eq_getElem hlt]; exact hV.all _ (List.getElem_mem hlt)
      have hsn : ds.take (k + 1) = ds.take k ++ [ds.getD k []] := by rw [List.take_succ_eq_append_getElem hlt, List.getD_eq_getElem?_getD, List.getElem?_eq_getElem hlt]; rfl
      generalize ds.getD k [] = d at *
      generalize hld : d.map V8 = ld at *
      have hdl : ld.length = 32 := by rw [← hld]; simpa using hd
      have hi' : (Tryd.prog.info? 23).map (·.size) = some ld.length := by rw [hdl]; kernel_rfl
      have hu := Tryd.underlying23
      have hlk : (ds.take k).length = k := by rw [List.length_take]; omega
      clear hr
      generalize ds.take k = q at *
      obtain ⟨a2, c2, rfl⟩ := hR.2.shape
      have hO := hR.2
      have hs := hR.1.size
      have hdo : ∀ v ∈ ld, v.oneCell' = true := by rw [← hld]; intro v hv; obtain ⟨x, _, rfl⟩ := List.mem_map.1 hv; rfl
      have hsz : ∀ v ∈ ([.agg ld.toArray] : List Value), v.cells.size = 32 := by intro v hv; simp at hv; subst hv; simpa [Value.cells] using hdl
      rw [hlk] at hO hR ⊢
      go_wp2_with (first | ((with_reducible refine at_ld 23 (.tmp 14) ?_); refine wpList_load_mid rfl 23 (.tmp 14) rfl g (o + k * 32) rfl ld _ hr1 hu rfl hi' ?_) | ((with_reducible refine at_bs _ _ #[(0, .tmp 15)] ?_); go_must (refine wpList_bs rfl 29 24 1 _ rfl [.agg ld.toArray] rfl hsz rfl (by decide) (by decide) Tryd.underlying29 i32D ?_); rw [one_flat]) | ((with_reducible refine at_app (.tmp 11) (.tmp 16) ?_); go_must (refine wpList_app32 rfl (.tmp 11) (.tmp 16) 29 rfl w.heap.size 24 i32D Tryd.underlying29 _ _ _ rfl (hO.alloc _) ⟨wr.heap.size, 0, none⟩ 1 ld rfl hdl (news_row _ _ _) hdo ?_ ?_ ?_); omega; (simp; omega); intro v3 w3 hA; have hR3 := hR.more hlk.symm (grownBy_alloc _ _) hA hld.symm))
      go_roundw
      case rel => exact ⟨k + 1, by omega, by go_num, by rw [hsn]; exact hR3⟩
      case measure => simp [intOf]; omega
    · obtain rfl : k = ds.length := by omega
      rw [List.take_length] at hR
      obtain ⟨a2, c2, rfl⟩ := hR.2.shape
      have hall := hV.all
      go_wp2_with fail
      go_ret
      exact ⟨⟨_, rfl, hR.2.digs hall⟩, hR.below⟩
end Go.Proofs.YteehpfccegnjjaaDoor
