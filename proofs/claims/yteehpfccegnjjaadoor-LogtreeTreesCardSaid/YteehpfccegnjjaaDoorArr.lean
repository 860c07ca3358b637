/-
  A block of cells that is known whole, read and written by its index; the bytes and words of which it may consist.
-/
import Derived.WalkKit
import Derived.WalkSpells
import Derived.Deep.QuietTactic
namespace Go.Proofs.YteehpfccegnjjaaDoor
open Go Go.RowKit

/-- Block b consists of just these cells, none of which is frozen. -/
def Arr (w : World) (b : Nat) (T : TypeId) (l : List Value) : Prop := w.heap[b]? = some (.cells l.toArray T (0, 0))

theorem Arr.cell {w : World} {b : Nat} {T : TypeId} {l : List Value} (h : Arr w b T l) (j : Nat) : w.cell? ⟨b, j, none⟩ = l[j]? := by
  rw [cell_of_row w b j _ T _ h]; simp
theorem Arr.frozen {w : World} {b : Nat} {T : TypeId} {l : List Value} (h : Arr w b T l) (j : Nat) : w.frozen? ⟨b, j, none⟩ = false :=
  frozen_of_row w b j _ T h
theorem Arr.lt {w : World} {b : Nat} {T : TypeId} {l : List Value} (h : Arr w b T l) : b < w.heap.size := by
  by_cases hb : b < w.heap.size
  · exact hb
  · have hn : w.heap[b]? = none := by simp; omega
    rw [Arr, hn] at h; cases h
theorem Arr.set {w : World} {b : Nat} {T : TypeId} {l : List Value} (h : Arr w b T l) (j : Nat) (v : Value) : Arr (w.setCell ⟨b, j, none⟩ v) b T (l.set j v) := by
  have := heap_setCell_same w b j _ T v h
  unfold Arr
  rw [this]; simp
theorem Arr.other {w : World} {b : Nat} {T : TypeId} {l : List Value} (h : Arr w b T l) (a : Addr) (v : Value) (hb : b ≠ a.block) : Arr (w.setCell a v) b T l := by
  unfold Arr
  rw [heap_setCell_other w a b v hb]; exact h
theorem Arr.drew {w : World} {b : Nat} {T : TypeId} {l : List Value} (h : Arr w b T l) : Arr w.drew b T l := h
theorem Arr.drewN {w : World} {b : Nat} {T : TypeId} {l : List Value} (h : Arr w b T l) (n : Nat) : Arr (w.drewN n) b T l := h
theorem Arr.alloc {w : World} {b : Nat} {T : TypeId} {l : List Value} (h : Arr w b T l) (o : Obj) : Arr (w.alloc o) b T l := by
  unfold Arr
  rw [Below.heap_alloc w o b h.lt]; exact h
theorem Arr.new (w : World) (T : TypeId) (l : List Value) : Arr (w.alloc (.cells l.toArray T (0, 0))) w.heap.size T l := by show (w.heap.push _)[w.heap.size]? = _; simp
theorem Arr.below {w w' : World} {B b : Nat} {T : TypeId} {l : List Value} (h : Arr w b T l) (hB : Below B w w') (hb : b < B) : Arr w' b T l := by
  unfold Arr
  rw [hB.block b hb]; exact h

theorem Arr.setRow {w : World} {b : Nat} {T : TypeId} {l : List Value} (h : Arr w b T l) (cs : Array Value) : Arr (w.setRow b cs) b T cs.toList := by
  have := setRow_heap w b _ cs T _ h
  unfold Arr
  rw [this]
theorem Arr.setRow_other {w : World} {b : Nat} {T : TypeId} {l : List Value} (h : Arr w b T l) (g : Nat) (cs : Array Value) (hb : b ≠ g) : Arr (w.setRow g cs) b T l := by
  unfold Arr
  rw [Go.setRow_other w g b cs hb]; exact h
theorem below_setRow {B : Nat} {a w : World} (h : Below B a w) {g : Nat} (hg : B ≤ g) (cs : Array Value) : Below B a (w.setRow g cs) :=
  h.trans ⟨rfl, rfl, rfl, by simp, fun k hk => Go.setRow_other w g k cs (by omega)⟩
theorem Arr.same {w w1 : World} {b : Nat} {T : TypeId} {l : List Value} (h : Arr w b T l) (h1 : w1.heap = w.heap) : Arr w1 b T l := by
  unfold Arr at *; rw [h1]; exact h
/-- A world that differs by draws alone. -/
structure SameHeap (w w1 : World) : Prop where
  heap : w1.heap = w.heap
  os : w1.os = w.os
  tape : w1.tape = w.tape
  output : w1.output = w.output
theorem SameHeap.drew (w : World) : SameHeap w w.drew := ⟨rfl, rfl, rfl, rfl⟩
theorem SameHeap.drewN (w : World) (n : Nat) : SameHeap w (w.drewN n) := ⟨rfl, rfl, rfl, rfl⟩
theorem SameHeap.refl (w : World) : SameHeap w w := ⟨rfl, rfl, rfl, rfl⟩
theorem SameHeap.below {w w1 : World} (h : SameHeap w w1) (B : Nat) : Below B w w1 := ⟨h.os, h.tape, h.output, by rw [h.heap]; exact Nat.le_refl _, fun k _ => by rw [h.heap]⟩

/-- Guards: the operation that stands next is a store, a load of just these operands. -/
theorem at_st (t : TypeId) (x y : Operand) {P : Program} {ops : Array Oper} {Q : Exit → Act → World → Prop} {rest : List Oper} {a : Act} {w : World} {d : Option Tmp} {ty : TypeId} {p : String} {af : Array Edge} {g : Option (Nat × Bool)}
    (h : wpList P ops Q (⟨d, .store t x y, ty, p, af, g⟩ :: rest) a w) : wpList P ops Q (⟨d, .store t x y, ty, p, af, g⟩ :: rest) a w := h
theorem at_ld (t : TypeId) (x : Operand) {P : Program} {ops : Array Oper} {Q : Exit → Act → World → Prop} {rest : List Oper} {a : Act} {w : World} {d : Option Tmp} {ty : TypeId} {p : String} {af : Array Edge} {g : Option (Nat × Bool)}
    (h : wpList P ops Q (⟨d, .load t x, ty, p, af, g⟩ :: rest) a w) : wpList P ops Q (⟨d, .load t x, ty, p, af, g⟩ :: rest) a w := h

/-- A byte, a word. -/
abbrev V8 (b : UInt8) : Value := .int .u8 b.toNat
abbrev V32 (x : UInt32) : Value := .int .u32 x.toNat
end Go.Proofs.YteehpfccegnjjaaDoor
