/-
  A tree in memory; the contracts of New, Append and Len.
-/
import Derived.Test.YteehpfccegnjjaaDoorOwnD
import Derived.Deep.Cut
namespace Go.Proofs.YteehpfccegnjjaaDoor
open Go Go.RowKit
abbrev flat (ds : List (List UInt8)) : List Value := ds.flatMap fun d => d.map V8
/-- The tree at block g, whose own blocks lie from base on: its leaves and its map. -/
structure TreeAt (w : World) (base g : Nat) (ds : List (List UInt8)) (mv : Value) : Prop where
  all : ∀ d ∈ ds, d.length = 32
  val : ∃ v, Arr w g 103 [v, mv] ∧ Own w base 24 32 v ds.length (flat ds) ∧ v.ownBlock ≠ some g
  ge : base ≤ g
theorem TreeAt.lt {w : World} {base g : Nat} {ds : List (List UInt8)} {mv : Value} (h : TreeAt w base g ds mv) : g < w.heap.size := by
  obtain ⟨v, hA, _⟩ := h.val
  exact hA.lt
theorem TreeAt.below {w w' : World} {base g : Nat} {ds : List (List UInt8)} {mv : Value} (h : TreeAt w base g ds mv) {B : Nat} (hB : Below B w w') (hb : w.heap.size ≤ B) : TreeAt w' base g ds mv := by
  obtain ⟨v, hA, hO, hn⟩ := h.val
  exact ⟨h.all, ⟨v, hA.below hB (Nat.lt_of_lt_of_le hA.lt hb), hO.below hB hb, hn⟩, h.ge⟩
theorem stable_grown (w0 : World) (row : Option Nat) : Stable (fun w => w0.grownBy w row) := fun _ _ h hb =>
  ⟨hb.os.trans h.os, hb.tape.trans h.tape, hb.output.trans h.output, Nat.le_trans h.size hb.size, fun k hk hr => (hb.block k (Nat.lt_of_lt_of_le hk h.size)).trans (h.block k hk hr)⟩
theorem grown_trans {a b c : World} {row : Option Nat} (h : a.grownBy b row) (k : b.grownBy c row) : a.grownBy c row :=
  ⟨k.os.trans h.os, k.tape.trans h.tape, k.output.trans h.output, Nat.le_trans h.size k.size, fun i hi hr => (k.block i (Nat.lt_of_lt_of_le hi h.size) hr).trans (h.block i hi hr)⟩
theorem Own.grown {w w' : World} {base : Nat} {e : TypeId} {sz : Nat} {v : Value} {n : Nat} {xs : List Value} (h : Own w base e sz v n xs) {row : Option Nat} (hg : w.grownBy w' row) (hr : ∀ k, v.ownBlock = some k → row ≠ some k) : Own w' base e sz v n xs :=
  h.kept fun k hk => hg.block k (h.lt k hk).2 (fun e => hr k hk e.symm)
section
variable {P : Program} {ops : Array Oper} {E : World → Prop}
theorem wpL_app32 {al : List Nat} {Q : (World → Prop) → Act → Prop} {o : Oper} {rest : List (Nat × Oper)} {k : Nat} {D : World → Prop} {a : Act} (hal : al.contains k = true)
    (hw : Region.wanted o (yielded ops a.tmps) = true) (s x : Operand) (t : TypeId) (ho : o.op = .call { callee := .builtin .append, args := #[s, x], argTypes := #[t, t] })
    (base : Nat) (e : TypeId) (hI : I32 P e) (ht : P.underlying t = some (.slice e)) (v : Value) (n : Nat) (xs : List Value) (hs : a.eval s = v)
    (ad : Addr) (c : Nat) (news : List Value) (hx : a.eval x = .slice (some ad) 1 c) (hl : news.length = 32) (h1 : ∀ u ∈ news, u.oneCell' = true) (hn : n ≤ 1048576)
    (hEs : Stable E) (hEg : ∀ w w', E w → w.grownBy w' v.ownBlock → E w')
    (hD : ∀ w, D w → E w ∧ Own w base e 32 v n xs ∧ base ≤ w.heap.size ∧ ∀ j u, news[j]? = some u → w.cell? (ad.add j) = some u)
    (h : ∀ v' w1 w, D w → Appended w base e 32 v (n + 1) (xs ++ news) v' w1 → wpL P ops E al Q rest (fun w3 => Below w1.heap.size w1 w3) (a.put o.dst v')) : wpL P ops E al Q ((k, o) :: rest) D a := by
  unfold wpL
  rw [if_pos hal]
  refine ⟨hw, { p : Value × World // ∃ w, D w ∧ Appended w base e 32 v (n + 1) (xs ++ news) p.1 p.2 }, fun p => p.1.1, fun p => Below p.1.2.heap.size p.1.2, fun p => ⟨Stable.below _, fun w3 h3 => ?_⟩, fun w hw' => ?_, fun p => ?_⟩
  · obtain ⟨⟨v', w1⟩, w, hDw, hA⟩ := p
    exact hEs _ _ (hEg _ _ (hD w hDw).1 hA.2.1) h3
  · obtain ⟨i, z, hi, hz, hsz, hb, hzs⟩ := hI
    obtain ⟨_, hO, hbase, hnews⟩ := hD w hw'
    obtain ⟨v', w1, hr, hA⟩ := run_append (P := P) w base t o.type e i z 32 32 ht hi hz hsz hb hzs v n xs hO ad 1 c news (by omega) hnews h1 (by unfold maxLen; omega) (by omega) hbase
    unfold genAt execOp
    simp only [ho, resolve, invoke, builtin, Sem.run_bind, Sem.run_pure, Result.andThen_ok, List.map_toArray, List.map_cons, List.map_nil, hs, hx, hr]
    exact ⟨⟨(v', w1), w, hw', hA⟩, rfl, Below.refl _ _⟩
  · obtain ⟨⟨v', w1⟩, w, hDw, hA⟩ := p
    exact h v' w1 w hDw hA
end
theorem quiet_run {P : Program} {C : World → Prop} {o : Oper} {a : Act} {w : World} {v : Value} (h : (execOp a.eval o).run P w = .ok (.value v) w) : o.quietAt P a C w v := by
  unfold Oper.quietAt
  rw [h]
  exact ⟨rfl, rfl⟩
theorem arr_one (w : World) (T : TypeId) (cs : Array Value) : Arr (w.alloc (.cells cs T)) w.heap.size T cs.toList := heap_alloc_new w _

set_option maxRecDepth 100000 in
set_option maxHeartbeats 4000000 in
theorem new_any (w : World) : Calls Tryd.prog 43 #[] w fun e w' => (∃ mv, e = .returned (.pointer (some ⟨w.heap.size, 0, none⟩)) ∧ TreeAt w' w.heap.size w.heap.size [] mv ∧ mv = .map none) ∧ Below w.heap.size w w' := by
  go_enter Tryd.func43, Tryd.ntmps43
  go_wp2
  go_ret
  refine ⟨⟨_, rfl, ⟨by simp, ⟨_, arr_one _ _ _, Own.nil _ _ _ _, by simp [Value.ownBlock]⟩, Nat.le_refl _⟩, rfl⟩, (Below.refl _ _).alloc (Nat.le_refl _) _⟩
set_option maxRecDepth 100000 in
set_option maxHeartbeats 4000000 in
theorem tlen_any (w : World) (base g : Nat) (ds : List (List UInt8)) (mv : Value) (hT : TreeAt w base g ds mv) :
    Calls Tryd.prog 42 #[.pointer (some ⟨g, 0, none⟩)] w fun e w' => e = .returned (.int .i64 ds.length) ∧ w = w' := by
  obtain ⟨v, hA, hO, hn⟩ := hT.val
  have c0 := hA.cell 0
  have f0 := hA.frozen 0
  simp only [List.getElem?_cons_zero] at c0
  obtain ⟨av, cv, rfl⟩ := hO.shape
  go_enter Tryd.func42, Tryd.ntmps42
  go_wp2
  go_ret
  exact ⟨rfl, rfl⟩
set_option maxRecDepth 100000 in
set_option maxHeartbeats 4000000 in
theorem append_any (w : World) (base g : Nat) (ds : List (List UInt8)) (mv : Value) (hT : TreeAt w base g ds mv) (d : List UInt8) (hd : d.length = 32) (hmax : ds.length < 1048576) :
    Calls Tryd.prog 39 #[.pointer (some ⟨g, 0, none⟩), Dv d] w fun e w' => e = .returned (.int .i64 0) ∧ TreeAt w' base g (ds ++ [d]) mv ∧ Below base w w' := by
  obtain ⟨v, hA, hO, hn⟩ := hT.val
  have hbg := hT.ge
  have hall := hT.all
  obtain ⟨la, hla, hlm, hal, hao⟩ := v8_list d hd
  rw [hla]
  have hB0 : w.grownBy (w.alloc (.cells la.toArray 24)) none := grownBy_alloc _ _
  have hBl := Arr.new w 24 la
  have hA0 := hA.alloc (.cells la.toArray 24)
  have hO0 := hO.alloc (.cells la.toArray 24)
  have c0 := hA.cell 0
  simp only [List.getElem?_cons_zero] at c0
  have hs0 : (w.alloc (.cells la.toArray 24)).heap.size = w.heap.size + 1 := by simp
  have hlt := hA.lt
  obtain ⟨av, cv, rfl⟩ := hO.shape
  clear hla hT
  have hflat := flat_len ds hall
  generalize hq : flat ds = q at *
  generalize hn0 : ds.length = n at *
  have hmax' : decide ((1048576 : Int) ≤ ((n : Nat) : Int)) = false := decide_eq_false (by omega)
  have HM := Lib.hid hmax; clear hmax
  have HQ := Lib.hid hq; have HN := Lib.hid hn0; have HALL := Lib.hid hall; have HFL := Lib.hid hflat; have HNN := Lib.hid hn; have HBG := Lib.hid hbg
  clear hq hn0 hall hflat hn hbg
  have HA := Lib.hid hA; have HO := Lib.hid hO; have HB0 := Lib.hid hB0; have HBl := Lib.hid hBl; have HA0 := Lib.hid hA0; have HO0 := Lib.hid hO0; have HLM := Lib.hid hlm; have HAO := Lib.hid hao
  clear hA hO hB0 hBl hA0 hO0 hlm hao
  go_enter Tryd.func39, Tryd.ntmps39
  go_upto_region 3 with (fail)
  have hA0 := HA0.out; have hO0 := HO0.out; have hBl := HBl.out
  change Code.wp _ _ _ _ (w.alloc (.cells la.toArray 24))
  have HB0' := HB0.out; have hn := HNN.out
  generalize w.alloc (.cells la.toArray 24) = w0 at *
  have c1 := hA0.cell 0
  simp only [List.getElem?_cons_zero] at c1
  have HBl := Lib.hid hBl; have HA0 := Lib.hid hA0; have HO0 := Lib.hid hO0; have HNN := Lib.hid hn; have HBB := Lib.hid HB0'
  clear hBl hA0 hO0 hn HB0' c0
  go_wp2_with fail
  have hA0 := HA0.out; have hO0 := HO0.out; have hBl := HBl.out; have HB0' := HBB.out; have hn := HNN.out
  have hEs := stable_grown w0 (Value.slice av n cv).ownBlock
  have hEg : ∀ wq : World, w0.grownBy wq (Value.slice av n cv).ownBlock → Arr wq g 103 [.slice av n cv, mv] ∧ wq.rangeAt w.heap.size 0 la := fun wq hq => by
    refine ⟨?_, ?_⟩
    · unfold Arr
      rw [hq.block g (by omega) (fun e => hn e.symm)]
      exact hA0
    · have : Arr wq w.heap.size 24 la := by
        unfold Arr
        rw [hq.block w.heap.size (by omega) (fun e => by have := (HO.out.lt w.heap.size e.symm).2; omega)]
        exact hBl
      exact this.range
  have hu := Tryd.underlying24
  have hi' : (Tryd.prog.info? 24).map (·.size) = some la.length := by rw [hal]; kernel_rfl
  have hsz : ∀ v ∈ ([.agg la.toArray] : List Value), v.cells.size = 32 := by intro v hv; simp at hv; subst hv; simpa [Value.cells] using hal
  refine wp_region_class2 10 [6, 7] [0, 1, 2, 3, 4, 5, 6, 7, 8, 9] (fun wq => w0.grownBy wq (Value.slice av n cv).ownBlock) (Below w0.heap.size w0) (Stable.below _) (fun _ h => ⟨h.os, h.tape, h.output, h.size, fun k hk _ => h.block k hk⟩) (Below.refl _ _).drew (by kernel_rfl) (by kernel_rfl) ?_
  simp only [opsOf, List.getElem?_cons_succ, List.getElem?_cons_zero, List.drop_succ_cons, List.drop_zero]
  refine wpL_val ?v1 rfl (by rfl) (fun wq hq => ?y1) ?z1
  case y1 => go_simp; with_reducible rfl
  try simp only [Act.put, List.setIfInBounds_toArray, List.set_cons_zero, List.set_cons_succ]
  refine wpL_val ?v2 rfl (by rfl) (fun wq hq => ?y2) ?z2
  case y2 => go_simp; with_reducible rfl
  try simp only [Act.put, List.setIfInBounds_toArray, List.set_cons_zero, List.set_cons_succ]
  refine wpL_val ?v3 rfl (by rfl) (fun wq hq => ?y3) ?z3
  case y3 => go_simp; with_reducible rfl
  try simp only [Act.put, List.setIfInBounds_toArray, List.set_cons_zero, List.set_cons_succ]
  refine wpL_val ?v4 rfl (by rfl) (fun wq hq => ?y4) ?z4
  case y4 => go_simp; with_reducible rfl
  try simp only [Act.put, List.setIfInBounds_toArray, List.set_cons_zero, List.set_cons_succ]
  refine wpL_val ?v5 rfl (by rfl) (fun wq hq => ?y5) ?z5
  case y5 => have cq := ((hEg wq hq).1.cell 0); simp only [List.getElem?_cons_zero] at cq; go_simp; with_reducible rfl
  try simp only [Act.put, List.setIfInBounds_toArray, List.set_cons_zero, List.set_cons_succ]
  refine wpL_val (.agg la.toArray) rfl (by rfl) (fun wq hq => quiet_ld 24 _ rfl _ _ rfl la _ ((hEg _ hq).2) hu rfl hi') ?_
  try simp only [Act.put, List.setIfInBounds_toArray, List.set_cons_zero, List.set_cons_succ]
  refine wpL_new (fun b => .slice (some ⟨b, 0, none⟩) 1 1) (.cells la.toArray 24) rfl (by rfl) (Stable.below _) (fun _ h => ⟨h.os, h.tape, h.output, h.size, fun k hk _ => h.block k hk⟩) (fun wq hq => ?ybs) (fun b hb => ?_)
  case ybs => exact (run_bs (P := Tryd.prog) 29 24 1 _ rfl [.agg la.toArray] rfl hsz rfl (by decide) (by decide) Tryd.underlying29 i32D).trans (by rw [one_flat])
  try simp only [Act.put, List.setIfInBounds_toArray, List.set_cons_zero, List.set_cons_succ]
  have hnle : n ≤ 1048576 := by have := HM.out; omega
  refine wpL_app32 rfl (by rfl) (.tmp 17) (.tmp 19) 29 rfl base 24 i32D Tryd.underlying29 (.slice av n cv) n q rfl ⟨b, 0, none⟩ 1 la rfl hal HAO.out hnle hEs (fun _ _ h h2 => grown_trans h h2) (fun wq hq => ?_) (fun v1 w1 wa hDa hAp => ?_)
  · refine ⟨⟨hq.1.os, hq.1.tape, hq.1.output, hq.1.size, fun k hk _ => hq.1.block k hk⟩, hO0.below hq.1 (Nat.le_refl _), ?_, fun j u hu => ?_⟩
    · have := hq.1.size; have := HBG.out; omega
    · have hb : Arr wq b 24 la := hq.2.2
      rw [Addr.add_lit, Nat.zero_add, hb.cell j, hu]
  try simp only [Act.put, List.setIfInBounds_toArray, List.set_cons_zero, List.set_cons_succ]
  refine wpL_val ?v7 rfl (by rfl) (fun wq hq => ?y7) ?z7
  case y7 => go_simp; with_reducible rfl
  try simp only [Act.put, List.setIfInBounds_toArray, List.set_cons_zero, List.set_cons_succ]
  refine wpL_val ?v8 rfl (by rfl) (fun wq hq => ?y8) ?z8
  case y8 => go_simp; with_reducible rfl
  try simp only [Act.put, List.setIfInBounds_toArray, List.set_cons_zero, List.set_cons_succ]
  refine wpL_nil ?_
  intro wt hwt
  have hBw : Below base w w1 := by
    refine ⟨hAp.2.1.os.trans (hDa.1.os.trans HB0.out.os), hAp.2.1.tape.trans (hDa.1.tape.trans HB0.out.tape), hAp.2.1.output.trans (hDa.1.output.trans HB0.out.output), Nat.le_trans HB0.out.size (Nat.le_trans hDa.1.size hAp.2.1.size), fun k hk => ?_⟩
    have h1 := hDa.1.size
    have h2 := HBG.out
    rw [hAp.2.1.block k (by omega) (fun e => by have := (HO.out.lt k e.symm).1; omega), hDa.1.block k (by omega), HB0.out.block k (by omega) (by simp)]
  have hA1 : Arr w1 g 103 [.slice av n cv, mv] := by
    unfold Arr
    have h1 := hDa.1.size
    rw [hAp.2.1.block g (by omega) (fun e => hn e.symm), hDa.1.block g (by omega)]
    exact hA0
  have hn1 : v1.ownBlock ≠ some g := by
    rcases hAp.2.2 with h | ⟨k, hk, hle⟩
    · rw [h]; exact hn
    · rw [hk]; intro e; have h1 := hDa.1.size; simp at e; omega
  have hAt := hA1.below hwt hA1.lt
  have hOt := hAp.1.below hwt (Nat.le_refl _)
  have hBt : Below base w wt := hBw.trans (hwt.mono (by have := hA1.lt; have := HBG.out; omega))
  obtain ⟨a3, c3, rfl⟩ := hOt.shape
  have c9 := hAt.cell 0
  have f9 := hAt.frozen 0
  simp only [List.getElem?_cons_zero] at c9
  have HAt := Lib.hid hAt; have HOt := Lib.hid hOt; have HBt := Lib.hid hBt; have HN1 := Lib.hid hn1
  clear hAt hOt hBt hn1 hA1 hBw hAp hDa hA0 hO0 hBl hEs hEg
  go_wp2
  go_ret
  refine ⟨rfl, ⟨?_, ⟨_, HAt.out.set 0 _, ?_, HN1.out⟩, HBG.out⟩, HBt.out.setCell HBG.out _⟩
  · intro x hx
    rcases List.mem_append.1 hx with h | h
    · exact HALL.out x h
    · simp at h; subst h; exact hd
  · have e := HN.out
    subst e
    have h := HOt.out.setCell ⟨g, 0, none⟩ (.slice a3 (ds.length + 1) c3) HN1.out
    rw [← HQ.out, HLM.out] at h
    simpa [flat] using h
end Go.Proofs.YteehpfccegnjjaaDoor
