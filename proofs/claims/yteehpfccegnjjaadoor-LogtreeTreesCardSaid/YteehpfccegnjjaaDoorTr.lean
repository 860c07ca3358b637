/-
  A tree with its map of roots, and what a call that may fill the map leaves.
-/
import Derived.Test.YteehpfccegnjjaaDoorMap
import Derived.Test.YteehpfccegnjjaaDoorCollides
namespace Go.Proofs.YteehpfccegnjjaaDoor
open Go Go.RowKit
theorem pow_of_and {n : Nat} (h0 : n ≠ 0) (h : n &&& (n - 1) = 0) : n = 2 ^ n.log2 := by
  by_cases hp : n.isPowerOfTwo
  · obtain ⟨k, rfl⟩ := hp
    rw [Nat.log2_two_pow]
  · have := Nat.and_sub_one_testBit_log2 h0 hp
    rw [h] at this
    simp at this
theorem b_and (a b : Nat) (ha : a < 9223372036854775808) (hb : b < 9223372036854775808) : bits .and .i64 (a : Int) (b : Int) = ((a &&& b : Nat) : Int) := by
  unfold bits
  have e1 : (BitVec.ofInt 64 (a : Int)) = BitVec.ofNat 64 a := by simp
  have e2 : (BitVec.ofInt 64 (b : Int)) = BitVec.ofNat 64 b := by simp
  have hle : a &&& b ≤ a := Nat.and_le_left
  have hr : ((BitVec.ofNat 64 a) &&& (BitVec.ofNat 64 b)).toNat = a &&& b := by
    rw [BitVec.toNat_and, BitVec.toNat_ofNat, BitVec.toNat_ofNat, Nat.mod_eq_of_lt (by omega), Nat.mod_eq_of_lt (by omega)]
  show IntKind.i64.wrap _ = _
  simp only [IntKind.bits]
  rw [e1, e2]
  show IntKind.i64.wrap ((((BitVec.ofNat 64 a) &&& (BitVec.ofNat 64 b)).toNat : Nat) : Int) = _
  rw [hr]
  apply IntWalk.i64_in <;> omega
structure Tr (w : World) (base g : Nat) (ds : List (List UInt8)) (v mv : Value) : Prop where
  all : ∀ d ∈ ds, d.length = 32
  arr : Arr w g 103 [v, mv]
  own : Own w base 24 32 v ds.length (flat ds)
  apart : v.ownBlock ≠ some g
  ge : base ≤ g
  roots : RootsAt w base ds mv
  kt : KT w
  kb : 0 < base
theorem Tr.lt {w : World} {base g : Nat} {ds : List (List UInt8)} {v mv : Value} (h : Tr w base g ds v mv) : g < w.heap.size := h.arr.lt
theorem RootsAt.same {w w' : World} {base : Nat} {ds : List (List UInt8)} {mv : Value} (h : RootsAt w base ds mv) (hb : ∀ b, mv = .map (some b) → w'.heap[b]? = w.heap[b]?) : RootsAt w' base ds mv := by
  rcases h with rfl | ⟨b, es, c, rfl, h1, h2, h3⟩
  · exact .inl rfl
  · exact .inr ⟨b, es, c, rfl, h1, by rw [hb b rfl]; exact h2, h3⟩
theorem RootsAt.lt {w : World} {base b : Nat} {ds : List (List UInt8)} (h : RootsAt w base ds (.map (some b))) : base ≤ b ∧ b < w.heap.size ∧ ∃ es c, w.heap[b]? = some (.map es c) := by
  rcases h with h | ⟨b', es, c, h, h1, h2, _⟩
  · cases h
  · cases h
    exact ⟨h1, (Array.getElem?_eq_some_iff.1 h2).1, es, c, h2⟩
theorem Tr.size {w : World} {base g : Nat} {ds : List (List UInt8)} {v mv : Value} (h : Tr w base g ds v mv) : base ≤ w.heap.size := Nat.le_of_lt (Nat.lt_of_le_of_lt h.ge h.lt)
theorem Tr.below {w w' : World} {base g : Nat} {ds : List (List UInt8)} {v mv : Value} (h : Tr w base g ds v mv) (hb : Below w.heap.size w w') : Tr w' base g ds v mv :=
  ⟨h.all, h.arr.below hb h.lt, h.own.below hb (Nat.le_refl _), h.apart, h.ge, h.roots.same (fun b e => by subst e; exact hb.block b h.roots.lt.2.1), h.kt.below hb (Nat.le_refl _), h.kb⟩
/-- The blocks of a tree that a call may write. -/
def TB (g : Nat) (mv : Value) (k : Nat) : Prop := k = g ∨ mv = .map (some k)
def PT (w : World) (base g : Nat) (ds : List (List UInt8)) (v mv : Value) (w' : World) : Prop :=
  ∃ mv', Tr w' base g ds v mv' ∧ But w (TB g mv) w' ∧ (mv' = mv ∨ (mv = .map none ∧ ∃ b, mv' = .map (some b) ∧ w.heap.size ≤ b))
theorem But.trans {w w1 w2 : World} {S S1 : Nat → Prop} (h : But w S w1) (k : But w1 S1 w2) (hs : ∀ j, j < w.heap.size → ¬ S j → ¬ S1 j) : But w S w2 :=
  ⟨k.os.trans h.os, k.tape.trans h.tape, k.output.trans h.output, Nat.le_trans h.size k.size, fun j hj hn => (k.block j (Nat.lt_of_lt_of_le hj h.size) (hs j hj hn)).trans (h.block j hj hn)⟩
theorem PT.below {w w' : World} {base g : Nat} {ds : List (List UInt8)} {v mv : Value} (h : Tr w base g ds v mv) (hb : Below w.heap.size w w') : PT w base g ds v mv w' := ⟨mv, h.below hb, But.of hb, .inl rfl⟩
theorem PT.trans {w w1 w2 : World} {base g : Nat} {ds : List (List UInt8)} {v mv : Value} (h : PT w base g ds v mv w1) (k : ∀ mv1, Tr w1 base g ds v mv1 → PT w1 base g ds v mv1 w2) : PT w base g ds v mv w2 := by
  obtain ⟨mv1, h1, h2, h3⟩ := h
  obtain ⟨mv2, k1, k2, k3⟩ := k mv1 h1
  refine ⟨mv2, k1, h2.trans k2 (fun j hj hn hs => ?_), ?_⟩
  · rcases hs with hs | hs
    · exact hn (.inl hs)
    · rcases h3 with h3 | ⟨_, b, h4, h5⟩
      · exact hn (.inr (by rw [← h3]; exact hs))
      · rw [h4] at hs; cases hs; omega
  · rcases h3 with rfl | ⟨h3, b, h4, h5⟩
    · rcases k3 with k3 | ⟨k3, b, k4, k5⟩
      · exact .inl k3
      · exact .inr ⟨k3, b, k4, Nat.le_trans h2.size k5⟩
    · rcases k3 with k3 | ⟨k3, _⟩
      · exact .inr ⟨h3, b, by rw [k3]; exact h4, h5⟩
      · rw [k3] at h4; cases h4
theorem PT.andBelow {w w1 w2 : World} {base g : Nat} {ds : List (List UInt8)} {v mv : Value} (h : PT w base g ds v mv w1) (k : Below w1.heap.size w1 w2) : PT w base g ds v mv w2 := h.trans fun _ h1 => PT.below h1 k
theorem PT.size {w w1 : World} {base g : Nat} {ds : List (List UInt8)} {v mv : Value} (h : PT w base g ds v mv w1) : w.heap.size ≤ w1.heap.size := by obtain ⟨_, _, h2, _⟩ := h; exact h2.size
/-- A block of cells that is not the tree's own stays. -/
theorem PT.block {w w1 : World} {base g : Nat} {ds : List (List UInt8)} {v mv : Value} (h : PT w base g ds v mv w1) (ht : Tr w base g ds v mv) {b : Nat} {cs : Array Value} {T : TypeId} {fr : Nat × Nat} (hA : w.heap[b]? = some (.cells cs T fr)) (hg : b ≠ g) : w1.heap[b]? = w.heap[b]? := by
  obtain ⟨_, _, h2, _⟩ := h
  refine h2.block b (Array.getElem?_eq_some_iff.1 hA).1 fun hs => ?_
  rcases hs with hs | hs
  · exact hg hs
  · subst hs
    obtain ⟨_, _, es, c, he⟩ := ht.roots.lt
    rw [hA] at he; cases he
theorem PT.arr {w w1 : World} {base g : Nat} {ds : List (List UInt8)} {v mv : Value} (h : PT w base g ds v mv w1) (ht : Tr w base g ds v mv) {b : Nat} {T : TypeId} {l : List Value} (hA : Arr w b T l) (hg : b ≠ g) : Arr w1 b T l := by
  unfold Arr
  rw [h.block ht hA hg]; exact hA
theorem PT.own {w w1 : World} {base g : Nat} {ds : List (List UInt8)} {v mv : Value} (h : PT w base g ds v mv w1) (ht : Tr w base g ds v mv) {bs : Nat} {e : TypeId} {sz n : Nat} {u : Value} {xs : List Value} (hO : Own w bs e sz u n xs) (hg : u.ownBlock ≠ some g) : Own w1 bs e sz u n xs := by
  refine hO.kept fun k hk => ?_
  rcases hO.2 with ⟨rfl, _⟩ | ⟨g', cap, cur, fr, rfl, _, hh, _⟩
  · cases hk
  · have : g' = k := by simpa [Value.ownBlock] using hk
    subst this
    exact h.block ht hh (fun e => hg (by rw [e]; rfl))
/-- Below the tree's blocks nothing turns. -/
theorem PT.base {w w1 : World} {base g : Nat} {ds : List (List UInt8)} {v mv : Value} (h : PT w base g ds v mv w1) (ht : Tr w base g ds v mv) : Below base w w1 := by
  obtain ⟨_, _, h2, _⟩ := h
  refine ⟨h2.os, h2.tape, h2.output, h2.size, fun k hk => h2.block k (Nat.lt_of_lt_of_le hk ht.size) fun hs => ?_⟩
  rcases hs with hs | hs
  · have := ht.ge; omega
  · subst hs
    have := ht.roots.lt.1; omega
/-- A store into a block of the call's own. -/
theorem PT.setOwn {w w1 : World} {base g : Nat} {ds : List (List UInt8)} {v mv : Value} (h : PT w base g ds v mv w1) (ht : Tr w base g ds v mv) {b : Nat} (hb : w.heap.size ≤ b) (cs : Array Value) {T : TypeId} {l : List Value} (hA : Arr w1 b T l) : PT w base g ds v mv (w1.setRow b cs) := by
  obtain ⟨mv', h1, h2, h3⟩ := h
  have hlt := ht.lt
  have hsz : (w1.setRow b cs).heap.size = w1.heap.size := by simp [World.setRow]
  have hblk : ∀ k, k ≠ b → (w1.setRow b cs).heap[k]? = w1.heap[k]? := fun k hk => Go.setRow_other w1 b k cs hk
  have hbw : Below w.heap.size w1 (w1.setRow b cs) := below_setRow (Below.refl _ _) hb cs
  refine ⟨mv', ⟨h1.all, h1.arr.setRow_other b cs (by omega), h1.own.kept (fun k hk => hblk k (by have := (ht.own.lt k hk).2; omega)), h1.apart, h1.ge, h1.roots.same (fun k e => hblk k (fun e2 => ?_)), ?_, h1.kb⟩, h2.row (.inr hb) cs, h3⟩
  · subst e
    subst e2
    obtain ⟨_, _, es, c, he⟩ := h1.roots.lt
    rw [hA] at he; cases he
  · exact ⟨by rw [hsz]; exact h1.kt.1, fun i hi => (World.cell?_of_block (hblk _ (by have := ht.kt.1; show 0 ≠ b; omega))).trans (h1.kt.2 i hi)⟩
theorem Tr.uniq {w : World} {base g : Nat} {ds : List (List UInt8)} {v mv mv' : Value} (h : Tr w base g ds v mv) (h' : Tr w base g ds v mv') : mv' = mv := by
  have h1 := h.arr
  have h2 := h'.arr
  unfold Arr at h1 h2
  rw [h1] at h2
  simp at h2
  exact h2.symm
theorem PT.trans1 {w w1 w2 : World} {base g : Nat} {ds : List (List UInt8)} {v mv mv1 : Value} (h : PT w base g ds v mv w1) (ht : Tr w1 base g ds v mv1) (k : PT w1 base g ds v mv1 w2) : PT w base g ds v mv w2 :=
  h.trans fun mv' h' => by rw [ht.uniq h']; exact k
theorem PT.tr {w w1 : World} {base g : Nat} {ds : List (List UInt8)} {v mv : Value} (h : PT w base g ds v mv w1) : ∃ mv1, Tr w1 base g ds v mv1 := by
  obtain ⟨mv1, h1, _⟩ := h
  exact ⟨mv1, h1⟩
/-- A map is made for the tree. -/
theorem PT.newMap {w : World} {base g : Nat} {ds : List (List UInt8)} {v : Value} (h : Tr w base g ds v (.map none)) :
    PT w base g ds v (.map none) ((w.alloc (.map #[] 0)).setCell ⟨g, 1, none⟩ (.map (some w.heap.size))) ∧ Arr ((w.alloc (.map #[] 0)).setCell ⟨g, 1, none⟩ (.map (some w.heap.size))) g 103 [v, .map (some w.heap.size)] := by
  have hlt := h.lt
  have hB : Below w.heap.size w (w.alloc (.map #[] 0)) := below_alloc _ _
  have ht := h.below hB
  have hA := ht.arr.set 1 (.map (some w.heap.size))
  have hblk : ∀ k, k ≠ g → ((w.alloc (.map #[] 0)).setCell ⟨g, 1, none⟩ (.map (some w.heap.size))).heap[k]? = (w.alloc (.map #[] 0)).heap[k]? := fun k hk => Below.heap_setCell _ _ _ _ hk
  have hsz : ((w.alloc (.map #[] 0)).setCell ⟨g, 1, none⟩ (.map (some w.heap.size))).heap.size = (w.alloc (.map #[] 0)).heap.size := by simp [World.setCell]
  have hnew : (w.alloc (.map #[] 0)).heap[w.heap.size]? = some (.map #[] 0) := heap_alloc_new _ _
  refine ⟨⟨.map (some w.heap.size), ⟨h.all, hA, ht.own.setCell _ _ h.apart, h.apart, h.ge, .inr ⟨w.heap.size, #[], 0, rfl, h.size, by rw [hblk _ (by omega)]; exact hnew, fun e he => by simp at he⟩, ?_, h.kb⟩, ⟨rfl, rfl, rfl, ?_, fun k hk hn => ?_⟩, .inr ⟨rfl, _, rfl, Nat.le_refl _⟩⟩, hA⟩
  · have hc : 0 ≠ g := by have := h.kb; have := h.ge; omega
    exact ⟨by rw [hsz]; exact ht.kt.1, fun i hi => (World.cell?_of_block (hblk _ hc)).trans (ht.kt.2 i hi)⟩
  · rw [hsz]; exact hB.size
  · rw [hblk k (fun e => hn (.inl e))]; exact hB.block k hk
/-- An entry is laid into the tree's map. -/
theorem PT.putMap {w : World} {base g b : Nat} {ds : List (List UInt8)} {v : Value} (h : Tr w base g ds v (.map (some b))) (o : Obj) (hr : RootsAt { w with heap := w.heap.setIfInBounds b o } base ds (.map (some b))) :
    PT w base g ds v (.map (some b)) { w with heap := w.heap.setIfInBounds b o } := by
  obtain ⟨hb1, hb2, es, c, he⟩ := h.roots.lt
  have hblk : ∀ k, k ≠ b → ({ w with heap := w.heap.setIfInBounds b o } : World).heap[k]? = w.heap[k]? := fun k hk => by
    show (w.heap.setIfInBounds b o)[k]? = _
    rw [Array.getElem?_setIfInBounds, if_neg (Ne.symm hk)]
  have hne : ∀ {k : Nat} {cs : Array Value} {T : TypeId} {fr : Nat × Nat}, w.heap[k]? = some (.cells cs T fr) → k ≠ b := fun hk e => by subst e; rw [hk] at he; cases he
  refine ⟨.map (some b), ⟨h.all, (hblk g (hne h.arr)).trans h.arr, h.own.kept (fun k hk => hblk k ?_), h.apart, h.ge, hr, ⟨by simpa using h.kt.1, fun i hi => (World.cell?_of_block (hblk _ (by have := h.kb; show 0 ≠ b; omega))).trans (h.kt.2 i hi)⟩, h.kb⟩, ⟨rfl, rfl, rfl, by simp, fun k hk hn => hblk k (fun e => hn (.inr (by rw [e])))⟩, .inl rfl⟩
  rcases h.own.2 with ⟨rfl, _⟩ | ⟨g', cap, cur, fr, rfl, _, hh, _⟩
  · cases hk
  · have : g' = k := by simpa [Value.ownBlock] using hk
    subst this
    exact hne hh
section
variable {P : Program} {ops : Array Oper} {rest : List Oper} {o : Oper} {a : Act} {w : World} {Q : Exit → Act → World → Prop}
theorem at_mu (t : TypeId) (m k x : Operand) {d : Option Tmp} {ty : TypeId} {p : String} {af : Array Edge} {g : Option (Nat × Bool)}
    (h : wpList P ops Q (⟨d, .mapUpdate t m k x, ty, p, af, g⟩ :: rest) a w) : wpList P ops Q (⟨d, .mapUpdate t m k x, ty, p, af, g⟩ :: rest) a w := h
theorem wpList_mu (hgd : o.guard = none) (t : TypeId) (m k x : Operand) (ho : o.op = .mapUpdate t m k x) (mv kv xv : Value) (hm : a.eval m = mv) (hk : a.eval k = kv) (hx : a.eval x = xv) (w' : World) (h : (Instr.mapUpdate t mv kv xv).run P w = .ok () w')
    (hQ : wpList P ops Q rest (a.put o.dst undef) w') : wpList P ops Q (o :: rest) a w :=
  wpList_plain hgd fun _ hK => by
    unfold Oper.wp execOp
    simp only [ho, hm, hk, hx, Sem.run_bind, h, Result.andThen_ok]
    exact hK _ _ hQ
end
def seg (ds : List (List UInt8)) (a b : Nat) : List (List UInt8) := (ds.drop a).take (b - a)
theorem seg_length (ds : List (List UInt8)) (a b : Nat) (h : a ≤ b) (hb : b ≤ ds.length) : (seg ds a b).length = b - a := by
  unfold seg; rw [List.length_take, List.length_drop]; omega
theorem seg_all {ds : List (List UInt8)} (h : ∀ d ∈ ds, d.length = 32) (a b : Nat) : ∀ d ∈ seg ds a b, d.length = 32 := fun d hd => h d (List.mem_of_mem_drop (List.mem_of_mem_take hd))
theorem seg_one (ds : List (List UInt8)) (a : Nat) (h : a < ds.length) : mroot (seg ds a (a + 1)) = ds.getD a [] := by
  have e : seg ds a (a + 1) = [ds.getD a []] := by
    unfold seg
    rw [show a + 1 - a = 1 by omega, List.drop_eq_getElem_cons h, List.take_succ_cons, List.take_zero, List.getD_eq_getElem?_getD, List.getElem?_eq_getElem h]
    rfl
  rw [e, mroot, if_neg (by simp)]
  rfl
theorem seg_node (ds : List (List UInt8)) (a b : Nat) (h : a + 2 ≤ b) (hb : b ≤ ds.length) : mroot (seg ds a b) = Sha.node (mroot (seg ds a (a + lp (b - a)))) (mroot (seg ds (a + lp (b - a)) b)) := by
  have hlen := seg_length ds a b (by omega) hb
  have hl := lp_lt (b - a) (by omega)
  rw [mroot, if_pos (by rw [hlen]; omega), hlen]
  have e1 : (seg ds a b).take (lp (b - a)) = seg ds a (a + lp (b - a)) := by
    unfold seg
    rw [List.take_take, show a + lp (b - a) - a = lp (b - a) by omega]
    congr 1
    omega
  have e2 : (seg ds a b).drop (lp (b - a)) = seg ds (a + lp (b - a)) b := by
    unfold seg
    rw [List.drop_take, List.drop_drop, show b - a - lp (b - a) = b - (a + lp (b - a)) by omega]
  rw [e1, e2]
end Go.Proofs.YteehpfccegnjjaaDoor
