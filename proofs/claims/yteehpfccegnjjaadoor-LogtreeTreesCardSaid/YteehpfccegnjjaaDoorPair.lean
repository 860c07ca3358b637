/-
  The contracts of the reference's Pair, Leaf, Node and Empty.
-/
import Derived.Test.YteehpfccegnjjaaDoorClass
namespace Go.Proofs.YteehpfccegnjjaaDoor
open Go Go.RowKit
theorem quiet_ld {P : Program} {C : World → Prop} {o : Oper} {a : Act} {w : World} (ty : TypeId) (x : Operand) (ho : o.op = .load ty x)
    (b off : Nat) (hx : a.eval x = .pointer (some ⟨b, off, none⟩)) (cs : List Value) (d : TypeDesc) (hr : w.rangeAt b off cs)
    (hu : P.underlying ty = some d) (hd : d.isRow = true) (hi : (P.info? ty).map (·.size) = some cs.length) : o.quietAt P a C w (.agg cs.toArray) := by
  unfold Oper.quietAt execOp
  simp only [ho, hx, Instr.loadAt, Instr.sureAddr, Sem.run_bind, Sem.run_pure, Result.andThen_ok, run_loadVar_mid w b off ty cs d hr hu hd hi, Oper.quietUpon, and_self]
theorem textR_la (d : List UInt8) (hd : d.length = 32) (la : List Value) (h : Dv d = .agg la.toArray) (w : World) :
    Calls Tryd.prog 68 #[.agg la.toArray] w fun e w' => e = .returned (.string (bs d)) ∧ Below w.heap.size w w' := by rw [← h]; exact textR_any d hd w
theorem strs_fresh (w : World) (g : Nat) (a b : List UInt8) (h : Fresh g (.cells #[.string (bs a), .string (bs b)] 9) w) : Strs w (.slice (some ⟨g, 0, none⟩) 2 2) [a, b] := by
  have hA : Arr w g 9 [.string (bs a), .string (bs b)] := h.2
  refine .inr ⟨_, 0, 2, rfl, h.1, fun j hj => ?_⟩
  rw [Nat.zero_add]
  refine (hA.cell j).trans ?_
  match j, hj with
  | 0, _ => rfl
  | 1, _ => rfl

set_option maxRecDepth 100000 in
set_option maxHeartbeats 4000000 in
theorem pair_any (a b : List UInt8) (ha : a.length = 32) (hb : b.length = 32) (w : World) :
    Calls Tryd.prog 48 #[Dv a, Dv b] w fun e w' => e = .returned (.string (bs (Sha.join 1 [a, b]))) ∧ Below w.heap.size w w' := by
  obtain ⟨la, hA, -, hal, hao⟩ := v8_list a ha
  obtain ⟨lb, hB, -, hbl, hbo⟩ := v8_list b hb
  have hlen : ∀ p ∈ [a, b], p.length ≤ 300 := by simp [ha, hb]
  generalize hj : Sha.join 1 [a, b] = j
  have Hj := Lib.hid hj; clear hj
  have h0 := arr2 w 23 23 la lb
  have hda := hA; have hdb := hB
  rw [hA, hB]
  have HA := Lib.hid hda; have HB := Lib.hid hdb; clear hda hdb hA hB
  have H0 := Lib.hid h0; clear h0
  go_enter Tryd.func48, Tryd.ntmps48
  go_wp2_with fail
  have ⟨h1, h2, h4⟩ := H0.out
  have R1 := h1.range
  have R2 := h2.range
  change Code.wp _ _ _ _ ((w.alloc (.cells la.toArray 23)).alloc (.cells lb.toArray 23))
  have hs : ((w.alloc (.cells la.toArray 23)).alloc (.cells lb.toArray 23)).heap.size = w.heap.size + 1 + 1 := by simp
  generalize (w.alloc (.cells la.toArray 23)).alloc (.cells lb.toArray 23) = w0 at *
  generalize hAe : w.heap.size = A at *
  have hu := Tryd.underlying23
  have hi : (Tryd.prog.info? 23).map (·.size) = some la.length := by rw [hal]; kernel_rfl
  have hi2 : (Tryd.prog.info? 23).map (·.size) = some lb.length := by rw [hbl]; kernel_rfl
  refine wp_region_class 10 [4, 5] [0, 1, 2, 3, 4, 5, 6, 7, 8, 9] (Below w0.heap.size w0) (Stable.below w0) (Below.refl _ _).drew (by kernel_rfl) (by kernel_rfl) ?_
  simp only [opsOf, List.getElem?_cons_succ, List.getElem?_cons_zero, List.drop_succ_cons, List.drop_zero]
  refine wpL_val (.agg la.toArray) rfl (by rfl) (fun wq hq => quiet_ld 23 _ rfl _ _ rfl la _ (range_below R1 hq (by omega)) hu rfl hi) ?_
  try simp only [Act.put, List.setIfInBounds_toArray, List.set_cons_zero, List.set_cons_succ]
  refine wpL_val ?v3 rfl (by rfl) (fun wq hq => ?y3) ?z3
  case y3 => go_simp; exact textR_la a ha la HA.out _
  try simp only [Act.put, List.setIfInBounds_toArray, List.set_cons_zero, List.set_cons_succ]
  refine wpL_val (.agg lb.toArray) rfl (by rfl) (fun wq hq => quiet_ld 23 _ rfl _ _ rfl lb _ (range_below R2 hq (by omega)) hu rfl hi2) ?_
  try simp only [Act.put, List.setIfInBounds_toArray, List.set_cons_zero, List.set_cons_succ]
  refine wpL_val ?v5 rfl (by rfl) (fun wq hq => ?y5) ?z5
  case y5 => go_simp; exact textR_la b hb lb HB.out _
  try simp only [Act.put, List.setIfInBounds_toArray, List.set_cons_zero, List.set_cons_succ]
  refine wpL_new (fun g => .slice (some ⟨g, 0, none⟩) 2 2) (.cells #[.string (bs a), .string (bs b)] 9) rfl (by rfl) (Stable.below w0) (fun _ h => h) (fun wq hq => ?y6) (fun g0 hg0 => ?_)
  case y6 => go_simp
  try simp only [Act.put, List.setIfInBounds_toArray, List.set_cons_zero, List.set_cons_succ]
  refine wpL_one ?v7 rfl (by rfl) (Stable.fresh (Stable.below w0) _ _) (fun _ h => h.1) (fun wq hq => ?y7) ?z7
  case y7 => go_simp; exact joinR_any 1 [a, b] (by simp) hlen _ _ (strs_fresh _ _ _ _ hq.2)
  try simp only [Act.put, List.setIfInBounds_toArray, List.set_cons_zero, List.set_cons_succ]
  refine wpL_val ?v8 rfl (by rfl) (fun wq hq => ?y8) ?z8
  case y8 => go_simp; with_reducible rfl
  try simp only [Act.put, List.setIfInBounds_toArray, List.set_cons_zero, List.set_cons_succ]
  refine wpL_val ?v9 rfl (by rfl) (fun wq hq => ?y9) ?z9
  case y9 => go_simp; with_reducible rfl
  try simp only [Act.put, List.setIfInBounds_toArray, List.set_cons_zero, List.set_cons_succ]
  refine wpL_val ?v10 rfl (by rfl) (fun wq hq => ?y10) ?z10
  case y10 => go_simp; with_reducible rfl
  try simp only [Act.put, List.setIfInBounds_toArray, List.set_cons_zero, List.set_cons_succ]
  refine wpL_val ?v11 rfl (by rfl) (fun wq hq => ?y11) ?z11
  case y11 => go_simp; with_reducible rfl
  try simp only [Act.put, List.setIfInBounds_toArray, List.set_cons_zero, List.set_cons_succ]
  refine wpL_nil ?_
  intro wt hwt
  rw [Hj.out]
  have hb := h4.trans (hwt.1.mono (by omega))
  go_wp2_with fail
  go_ret
  exact ⟨rfl, hAe ▸ hb⟩
end Go.Proofs.YteehpfccegnjjaaDoor
