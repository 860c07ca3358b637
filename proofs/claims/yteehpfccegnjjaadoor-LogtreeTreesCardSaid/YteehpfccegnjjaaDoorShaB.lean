/-
  The contract of sha256.begin, and of sha256.block: the state behind a block is that of the plain function Sha.block.
-/
import Derived.Test.YteehpfccegnjjaaDoorShaA
import Derived.Test.YteehpfccegnjjaaDoorArr
import Derived.StillTailTactics
import Derived.Deep.RegionWith
import Derived.Lib.Hide
namespace Go.Proofs.YteehpfccegnjjaaDoor
open Go Go.RowKit

/-- A state's cells, and the state as a value. -/
def S8l (v : Sha.S8) : List Value := [V32 v.a, V32 v.b, V32 v.c, V32 v.d, V32 v.e, V32 v.f, V32 v.g, V32 v.h]
def S8v (v : Sha.S8) : Value := .agg #[V32 v.a, V32 v.b, V32 v.c, V32 v.d, V32 v.e, V32 v.f, V32 v.g, V32 v.h]

set_option maxHeartbeats 400000 in
theorem begin_any (w : World) :
    Calls Tryd.prog 77 #[] w fun e w' => e = .returned (S8v Sha.init) ∧ Below w.heap.size w w' := by
  go_enter Tryd.func77, Tryd.ntmps77
  go_wp2
  exact bodyPost_ret (v := S8v Sha.init) (results_cell_row rfl _ _ w.heap.size _ _ _ _ rfl (heap_alloc_new _ _) Tryd.underlying97 rfl (by kernel_rfl)) rfl ⟨rfl, (Below.refl _ _).alloc (Nat.le_refl _) _⟩

/-- The table of the constants of the rounds lies in its variable. -/
def KTab (w : World) : Prop := ∀ i, i < 64 → w.cell? ⟨0, i, none⟩ = some (V32 (Sha.K.getD i 0))

/-- The head of a round of the first two loops: k words of the schedule stand in the array. -/
def Sch (v : Sha.S8) (s : ByteArray) (w : World) (k : Nat) (wr : World) : Prop :=
  Arr wr w.heap.size 97 (S8l v) ∧ Arr wr (w.heap.size + 1) 97 (List.replicate 8 (V32 0)) ∧
  Arr wr (w.heap.size + 1 + 1) 116 ((Sha.sched s.data.toList k).map V32 ++ List.replicate (64 - k) (V32 0)) ∧ Below w.heap.size w wr

theorem sch_start (v : Sha.S8) (s : ByteArray) (w : World) :
    Sch v s w 0 (((w.alloc (.cells (S8l v).toArray 97)).alloc (.cells (List.replicate 8 (V32 0)).toArray 97)).alloc (.cells (List.replicate 64 (V32 0)).toArray 116)) := by
  have e1 : ∀ o, (w.alloc o).heap.size = w.heap.size + 1 := fun o => by simp
  have e2 : ∀ o o', ((w.alloc o).alloc o').heap.size = w.heap.size + 1 + 1 := fun o o' => by simp
  refine ⟨((Arr.new w 97 (S8l v)).alloc _).alloc _, ?_, ?_, (((Below.refl _ _).alloc (Nat.le_refl _) _).alloc (by simp) _).alloc (by simp; omega) _⟩
  · have := (Arr.new (w.alloc (.cells (S8l v).toArray 97)) 97 (List.replicate 8 (V32 0)))
    rw [e1] at this
    exact this.alloc _
  · have := (Arr.new ((w.alloc (.cells (S8l v).toArray 97)).alloc (.cells (List.replicate 8 (V32 0)).toArray 97)) 116 (List.replicate 64 (V32 0)))
    rw [e2] at this
    exact this

theorem sch_step {v : Sha.S8} {s : ByteArray} {w wr : World} {k : Nat} (h : Sch v s w k wr) (hk : k < 64) (x : Int) (hx : x = ((Sha.nextW s.data.toList (Sha.sched s.data.toList k) k).toNat : Int)) :
    Sch v s w (k + 1) (wr.setCell ⟨w.heap.size + 1 + 1, k, none⟩ (.int .u32 x)).drew := by
  obtain ⟨h1, h2, h3, h4⟩ := h
  subst hx
  refine ⟨(h1.other _ _ (by simp; omega)).drew, (h2.other _ _ (by simp)).drew, ?_, (h4.setCell (by simp; omega) _).drew⟩
  have := (h3.set k (V32 (Sha.nextW s.data.toList (Sha.sched s.data.toList k) k))).drew
  rw [Sha.fill_set _ k 64 _ _ (by simp [Sha.sched_length]) hk] at this
  simpa [Sha.sched] using this

theorem sch_same {v : Sha.S8} {s : ByteArray} {w wr w1 : World} {k : Nat} (h : Sch v s w k wr) (h1 : w1.heap = wr.heap) (h2 : w1.os = wr.os) (h3 : w1.tape = wr.tape) (h4 : w1.output = wr.output) : Sch v s w k w1 := by
  obtain ⟨a, b, c, d⟩ := h
  refine ⟨?_, ?_, ?_, ⟨h2.trans d.os, h3.trans d.tape, h4.trans d.output, by rw [h1]; exact d.size, by rw [h1]; exact d.block⟩⟩ <;> (unfold Arr at *; rw [h1]; assumption)

/-- A word of the schedule that stands in the array. -/
theorem sch_cell {v : Sha.S8} {s : ByteArray} {w wr : World} {k : Nat} (h : Sch v s w k wr) (j : Nat) (hj : j < k) :
    wr.cell? ⟨w.heap.size + 1 + 1, j, none⟩ = some (V32 ((Sha.sched s.data.toList k).getD j 0)) := by
  rw [h.2.2.1.cell j, Sha.fill_get_lt _ k _ _ _ (by simp [Sha.sched_length]) hj]
  have : j < (Sha.sched s.data.toList k).length := by rw [Sha.sched_length]; exact hj
  simp [this]

theorem byte_at (s : ByteArray) (j : Nat) (h : j < s.size) : s.data.toList.getD j 0 = s[j] := by
  have : j < s.data.toList.length := by simpa using h
  simp [List.getD, List.getElem?_eq_getElem this]
  rfl

/-- The cells of a state. -/
theorem s8_cells {w : World} {b : Nat} {T : TypeId} {v : Sha.S8} (h : Arr w b T (S8l v)) :
    w.cell? ⟨b, 0, none⟩ = some (V32 v.a) ∧ w.cell? ⟨b, 1, none⟩ = some (V32 v.b) ∧ w.cell? ⟨b, 2, none⟩ = some (V32 v.c) ∧ w.cell? ⟨b, 3, none⟩ = some (V32 v.d) ∧
    w.cell? ⟨b, 4, none⟩ = some (V32 v.e) ∧ w.cell? ⟨b, 5, none⟩ = some (V32 v.f) ∧ w.cell? ⟨b, 6, none⟩ = some (V32 v.g) ∧ w.cell? ⟨b, 7, none⟩ = some (V32 v.h) :=
  ⟨(h.cell 0).trans rfl, (h.cell 1).trans rfl, (h.cell 2).trans rfl, (h.cell 3).trans rfl, (h.cell 4).trans rfl, (h.cell 5).trans rfl, (h.cell 6).trans rfl, (h.cell 7).trans rfl⟩
theorem s8_free {w : World} {b : Nat} {T : TypeId} {v : Sha.S8} (h : Arr w b T (S8l v)) :
    w.frozen? ⟨b, 0, none⟩ = false ∧ w.frozen? ⟨b, 1, none⟩ = false ∧ w.frozen? ⟨b, 2, none⟩ = false ∧ w.frozen? ⟨b, 3, none⟩ = false ∧
    w.frozen? ⟨b, 4, none⟩ = false ∧ w.frozen? ⟨b, 5, none⟩ = false ∧ w.frozen? ⟨b, 6, none⟩ = false ∧ w.frozen? ⟨b, 7, none⟩ = false :=
  ⟨h.frozen 0, h.frozen 1, h.frozen 2, h.frozen 3, h.frozen 4, h.frozen 5, h.frozen 6, h.frozen 7⟩

theorem cell_at_word {w : World} {b : Nat} {T : TypeId} {l : List UInt8} (h : Arr w b T ((Sha.sched l 64).map V32)) (j : Nat) (hj : j < 64) : w.cell? ⟨b, j, none⟩ = some (V32 ((Sha.sched l 64).getD j 0)) := by
  rw [h.cell j]
  have : j < (Sha.sched l 64).length := by rw [Sha.sched_length]; exact hj
  simp [this]

/-- The head of a round of the third loop. -/
def Rnd (v : Sha.S8) (s : ByteArray) (w : World) (X : Nat) (k : Nat) (wr : World) : Prop :=
  Arr wr w.heap.size 97 (S8l v) ∧ Arr wr (w.heap.size + 1) 97 (List.replicate 8 (V32 0)) ∧ Arr wr (w.heap.size + 1 + 1) 116 ((Sha.sched s.data.toList 64).map V32) ∧
  Arr wr X 97 (S8l (Sha.rounds s.data.toList v k)) ∧ Below w.heap.size w wr

theorem rnd_same {v : Sha.S8} {s : ByteArray} {w wr w1 : World} {X k : Nat} (h : Rnd v s w X k wr) (h1 : w1.heap = wr.heap) (h2 : w1.os = wr.os) (h3 : w1.tape = wr.tape) (h4 : w1.output = wr.output) : Rnd v s w X k w1 := by
  obtain ⟨a, b, c, c', d⟩ := h
  refine ⟨?_, ?_, ?_, ?_, ⟨h2.trans d.os, h3.trans d.tape, h4.trans d.output, by rw [h1]; exact d.size, by rw [h1]; exact d.block⟩⟩ <;> (unfold Arr at *; rw [h1]; assumption)

theorem rnd_step {v : Sha.S8} {s : ByteArray} {w wr : World} {X k : Nat} (h : Rnd v s w X k wr) (hX : w.heap.size + 1 + 1 < X) (p q : Int)
    (hp : p = ((Sha.ep (Sha.rounds s.data.toList v k) (Sha.K.getD k 0) ((Sha.sched s.data.toList 64).getD k 0) + Sha.eq (Sha.rounds s.data.toList v k)).toNat : Int))
    (hq : q = (((Sha.rounds s.data.toList v k).d + Sha.ep (Sha.rounds s.data.toList v k) (Sha.K.getD k 0) ((Sha.sched s.data.toList 64).getD k 0)).toNat : Int)) :
    Rnd v s w X (k + 1) ((((((((wr.setCell ⟨X, 0, none⟩ (.int .u32 p)).setCell ⟨X, 1, none⟩ (V32 (Sha.rounds s.data.toList v k).a)).setCell ⟨X, 2, none⟩ (V32 (Sha.rounds s.data.toList v k).b)).setCell ⟨X, 3, none⟩ (V32 (Sha.rounds s.data.toList v k).c)).setCell
      ⟨X, 4, none⟩ (.int .u32 q)).setCell ⟨X, 5, none⟩ (V32 (Sha.rounds s.data.toList v k).e)).setCell ⟨X, 6, none⟩ (V32 (Sha.rounds s.data.toList v k).f)).setCell ⟨X, 7, none⟩ (V32 (Sha.rounds s.data.toList v k).g)) := by
  obtain ⟨h1, h2, h3, h4, h5⟩ := h
  subst hp hq
  have o : ∀ {u : World} {b : Nat} {T : TypeId} {l : List Value} (j : Nat) (z : Value), b ≠ X → Arr u b T l → Arr (u.setCell ⟨X, j, none⟩ z) b T l := fun j z hb ha => ha.other _ _ hb
  refine ⟨?_, ?_, ?_, ?_, ?_⟩
  · iterate 8 refine o _ _ (by omega) ?_
    exact h1
  · iterate 8 refine o _ _ (by omega) ?_
    exact h2
  · iterate 8 refine o _ _ (by omega) ?_
    exact h3
  · have := (((((((h4.set 0 (V32 (Sha.ep (Sha.rounds s.data.toList v k) (Sha.K.getD k 0) ((Sha.sched s.data.toList 64).getD k 0) + Sha.eq (Sha.rounds s.data.toList v k)))).set 1 (V32 (Sha.rounds s.data.toList v k).a)).set 2 (V32 (Sha.rounds s.data.toList v k).b)).set 3 (V32 (Sha.rounds s.data.toList v k).c)).set 4
      (V32 ((Sha.rounds s.data.toList v k).d + Sha.ep (Sha.rounds s.data.toList v k) (Sha.K.getD k 0) ((Sha.sched s.data.toList 64).getD k 0)))).set 5 (V32 (Sha.rounds s.data.toList v k).e)).set 6 (V32 (Sha.rounds s.data.toList v k).f)).set 7 (V32 (Sha.rounds s.data.toList v k).g)
    exact this
  · iterate 8 refine Below.setCell ?_ (by show w.heap.size ≤ X; omega) _
    exact h5

/-- The words of a state; the first k of them with another state's added. -/
def S8w (v : Sha.S8) : List UInt32 := [v.a, v.b, v.c, v.d, v.e, v.f, v.g, v.h]
def sums (v x : Sha.S8) (k : Nat) : List UInt32 := (List.zipWith (· + ·) (S8w v) (S8w x)).take k ++ (S8w v).drop k
theorem lt8 {k : Nat} (h : k < 8) : k = 0 ∨ k = 1 ∨ k = 2 ∨ k = 3 ∨ k = 4 ∨ k = 5 ∨ k = 6 ∨ k = 7 := by omega
theorem sums_get (v x : Sha.S8) (k : Nat) (h : k < 8) : ((sums v x k).map V32)[k]? = some (V32 ((S8w v).getD k 0)) := by
  rcases lt8 h with rfl | rfl | rfl | rfl | rfl | rfl | rfl | rfl <;> rfl
theorem s8_get (v : Sha.S8) (k : Nat) (h : k < 8) : (S8l v)[k]? = some (V32 ((S8w v).getD k 0)) := by
  rcases lt8 h with rfl | rfl | rfl | rfl | rfl | rfl | rfl | rfl <;> rfl
theorem sums_set (v x : Sha.S8) (k : Nat) (h : k < 8) : ((sums v x k).map V32).set k (V32 ((S8w v).getD k 0 + (S8w x).getD k 0)) = (sums v x (k + 1)).map V32 := by
  rcases lt8 h with rfl | rfl | rfl | rfl | rfl | rfl | rfl | rfl <;> rfl

/-- The head of a round of the last loop. -/
def Sums (v x : Sha.S8) (w : World) (X : Nat) (k : Nat) (wr : World) : Prop :=
  Arr wr w.heap.size 97 ((sums v x k).map V32) ∧ Arr wr (w.heap.size + 1) 97 (List.replicate 8 (V32 0)) ∧ Arr wr X 97 (S8l x) ∧ Below w.heap.size w wr
theorem sums_step {v x : Sha.S8} {w wr : World} {X k : Nat} (h : Sums v x w X k wr) (hX : w.heap.size + 1 + 1 < X) (hk : k < 8) (p : Int)
    (hp : p = (((S8w v).getD k 0 + (S8w x).getD k 0).toNat : Int)) : Sums v x w X (k + 1) (wr.setCell ⟨w.heap.size, k, none⟩ (.int .u32 p)).drew := by
  obtain ⟨h1, h2, h3, h4⟩ := h
  subst hp
  refine ⟨?_, (h2.other _ _ (by simp)).drew, (h3.other _ _ (by simp; omega)).drew, (h4.setCell (Nat.le_refl _) _).drew⟩
  have := (h1.set k (V32 ((S8w v).getD k 0 + (S8w x).getD k 0))).drew
  rw [sums_set v x k hk] at this
  exact this

/-- A state stored word by word into a block of its own. -/
def putS8 (w : World) (b : Nat) (x : Sha.S8) : World :=
  (((((((w.setCell ⟨b, 0, none⟩ (V32 x.a)).setCell ⟨b, 1, none⟩ (V32 x.b)).setCell ⟨b, 2, none⟩ (V32 x.c)).setCell ⟨b, 3, none⟩ (V32 x.d)).setCell ⟨b, 4, none⟩ (V32 x.e)).setCell ⟨b, 5, none⟩ (V32 x.f)).setCell ⟨b, 6, none⟩ (V32 x.g)).setCell ⟨b, 7, none⟩ (V32 x.h)
theorem fin_heap {w : World} {b : Nat} {T : TypeId} {x : Sha.S8} (h : Arr w b T (List.replicate 8 (V32 0))) : Arr (putS8 w b x) b T (S8l x) :=
  (((((((h.set 0 (V32 x.a)).set 1 (V32 x.b)).set 2 (V32 x.c)).set 3 (V32 x.d)).set 4 (V32 x.e)).set 5 (V32 x.f)).set 6 (V32 x.g)).set 7 (V32 x.h)
theorem fin_below {w wr : World} {B b : Nat} {x : Sha.S8} (h : Below B w wr) (hb : B ≤ b) : Below B w (putS8 wr b x) :=
  (((((((h.setCell hb _).setCell hb _).setCell hb _).setCell hb _).setCell hb _).setCell hb _).setCell hb _).setCell hb _

set_option maxRecDepth 100000 in
set_option maxHeartbeats 2000000 in
/-- sha256.block returns the state behind a block. -/
theorem block_any (v : Sha.S8) (s : ByteArray) (hs : s.size = 64) (w : World) (hw : 0 < w.heap.size) (hK : KTab w) :
    Calls Tryd.prog 78 #[S8v v, .string s] w fun e w' => e = .returned (S8v (Sha.block v s.data.toList)) ∧ Below w.heap.size w w' := by
  have hs1 : 64 ≤ s.size := by omega
  have Hs := Lib.hid hs; clear hs
  have HK := Lib.hid hK; clear hK
  unfold S8v
  go_enter Tryd.func78, Tryd.ntmps78
  go_wp2
  go_loopw [17] (fun t wr => ∃ k : Nat, k ≤ 16 ∧ t = .int .i64 k ∧ Sch v s w k wr) (fun t _ => 16 - (intOf t).toNat)
  case atStart => exact ⟨0, by omega, rfl, sch_start v s w⟩
  case round =>
    obtain ⟨k, hk, rfl, hS⟩ := hrel
    by_cases hlt : k < 16
    · have hc := (hS.2.2.1.cell k).trans (Sha.fill_get _ k 64 _ (by simp [Sha.sched_length]) (by omega))
      have hf := hS.2.2.1.frozen k
      have b0 : 4 * k < s.size := by omega
      have b1 : 4 * k + 1 < s.size := by omega
      have b2 : 4 * k + 2 < s.size := by omega
      have b3 : 4 * k + 3 < s.size := by omega
      have e0 : IntKind.i64.wrap (4 * (k : Int)) = 4 * (k : Int) := i64_nat (4 * k) (by omega)
      have f0 : 0 ≤ 4 * (k : Int) := by omega
      have g0 : 4 * (k : Int) < (s.size : Int) := by omega
      have t0 : (4 * (k : Int)).toNat = 4 * k := by omega
      have e1 : IntKind.i64.wrap (4 * (k : Int) + 1) = 4 * (k : Int) + 1 := i64_nat (4 * k + 1) (by omega)
      have f1 : 0 ≤ 4 * (k : Int) + 1 := by omega
      have g1 : 4 * (k : Int) + 1 < (s.size : Int) := by omega
      have t1 : (4 * (k : Int) + 1).toNat = 4 * k + 1 := by omega
      have e2 : IntKind.i64.wrap (4 * (k : Int) + 2) = 4 * (k : Int) + 2 := i64_nat (4 * k + 2) (by omega)
      have f2 : 0 ≤ 4 * (k : Int) + 2 := by omega
      have g2 : 4 * (k : Int) + 2 < (s.size : Int) := by omega
      have t2 : (4 * (k : Int) + 2).toNat = 4 * k + 2 := by omega
      have e3 : IntKind.i64.wrap (4 * (k : Int) + 3) = 4 * (k : Int) + 3 := i64_nat (4 * k + 3) (by omega)
      have f3 : 0 ≤ 4 * (k : Int) + 3 := by omega
      have g3 : 4 * (k : Int) + 3 < (s.size : Int) := by omega
      have t3 : (4 * (k : Int) + 3).toNat = 4 * k + 3 := by omega
      have k64 : (k : Int) < 64 := by omega
      go_wp2
      go_still_tail 31, (by kernel_rfl)
      change wpList _ _ _ _ _ wr.drew
      go_wp2
      go_roundw
      case rel =>
        refine ⟨k + 1, by omega, by go_num, sch_step hS (by omega) _ ?_⟩
        rw [word_raw, Sha.nextW, if_pos hlt, Sha.word, byte_at s _ b0, byte_at s _ b1, byte_at s _ b2, byte_at s _ b3]
      case measure => simp [intOf]; omega
    · obtain rfl : k = 16 := by omega
      go_wp2
      go_loopw [7] (fun t wr => ∃ k : Nat, 16 ≤ k ∧ k ≤ 64 ∧ t = .int .i64 k ∧ Sch v s w k wr) (fun t _ => 64 - (intOf t).toNat)
      case atStart => exact ⟨16, by omega, by omega, rfl, hS⟩
      case round =>
        obtain ⟨k, hk, hk', rfl, hS⟩ := hrel
        by_cases hlt : k < 64
        · have e15 : IntKind.i64.wrap ((k : Int) - 15) = (k : Int) - 15 := i64_int _ (by omega) (by omega)
          have f15 : 0 ≤ (k : Int) - 15 := by omega
          have f15' : 15 ≤ (k : Int) := by omega
          have g15 : (k : Int) - 15 < 64 := by omega
          have t15 : ((k : Int) - 15).toNat = k - 15 := by omega
          have c15 := sch_cell hS (k - 15) (by omega)
          have e2 : IntKind.i64.wrap ((k : Int) - 2) = (k : Int) - 2 := i64_int _ (by omega) (by omega)
          have f2 : 0 ≤ (k : Int) - 2 := by omega
          have f2' : 2 ≤ (k : Int) := by omega
          have g2 : (k : Int) - 2 < 64 := by omega
          have t2 : ((k : Int) - 2).toNat = k - 2 := by omega
          have c2 := sch_cell hS (k - 2) (by omega)
          have e16 : IntKind.i64.wrap ((k : Int) - 16) = (k : Int) - 16 := i64_int _ (by omega) (by omega)
          have f16 : 0 ≤ (k : Int) - 16 := by omega
          have f16' : 16 ≤ (k : Int) := by omega
          have g16 : (k : Int) - 16 < 64 := by omega
          have t16 : ((k : Int) - 16).toNat = k - 16 := by omega
          have c16 := sch_cell hS (k - 16) (by omega)
          have e7 : IntKind.i64.wrap ((k : Int) - 7) = (k : Int) - 7 := i64_int _ (by omega) (by omega)
          have f7 : 0 ≤ (k : Int) - 7 := by omega
          have f7' : 7 ≤ (k : Int) := by omega
          have g7 : (k : Int) - 7 < 64 := by omega
          have t7 : ((k : Int) - 7).toNat = k - 7 := by omega
          have c7 := sch_cell hS (k - 7) (by omega)
          have k64 : (k : Int) < 64 := by omega
          go_wp2
          go_quiet (fail)
          have hS1 : Sch v s w k (wr.drewN nq) := sch_same hS rfl rfl rfl rfl
          generalize wr.drewN nq = w1 at hS1
          clear c15 c2 c16 c7
          have c16 := sch_cell hS1 (k - 16) (by omega)
          have c7 := sch_cell hS1 (k - 7) (by omega)
          have hf := hS1.2.2.1.frozen k
          have hc := (hS1.2.2.1.cell k).trans (Sha.fill_get _ k 64 _ (by simp [Sha.sched_length]) (by omega))
          go_wp2
          go_still_tail 29, (by kernel_rfl)
          still_call (right_any _ 7 tn7 _)
          repeat still_step
          still_call (right_any _ 18 tn18 _)
          repeat still_step
          still_call (right_any _ 17 tn17 _)
          repeat still_step
          still_call (right_any _ 19 tn19 _)
          repeat still_step
          refine wpStill_nil ?_
          change wpList _ _ _ _ _ w1.drew
          go_wp2
          go_roundw
          case rel =>
            (repeat apply Exists.intro)
            refine ⟨⟨k + 1, by omega, by omega, by go_num, sch_step hS1 (by omega) _ ?_⟩, rfl⟩
            simp only [w_shr3, w_shr10, w_xor, w_add4]
            rw [Sha.nextW, if_neg (by omega)]
            simp only [List.getD_eq_getElem?_getD]
            rfl
          case measure => simp [intOf]; omega
        · obtain rfl : k = 64 := by omega
          obtain ⟨a0, a1, a2, a3, a4, a5, a6, a7⟩ := s8_cells hS.1
          go_wp2
          have hR : Rnd v s w wr.heap.size 0 (wr.alloc (.cells (S8l v).toArray 97)) := ⟨hS.1.alloc _, hS.2.1.alloc _, by simpa using hS.2.2.1.alloc _, Arr.new _ _ _, hS.2.2.2.alloc hS.2.2.2.size _⟩
          have hX := hS.2.2.1.lt
          change Code.wp _ _ _ _ (wr.alloc (.cells (S8l v).toArray 97))
          generalize wr.alloc (.cells (S8l v).toArray 97) = w2 at hR
          generalize wr.heap.size = X at hR hX
          clear a0 a1 a2 a3 a4 a5 a6 a7 hS hlt
          go_loopw [94] (fun t wr => ∃ k : Nat, k ≤ 64 ∧ t = .int .i64 k ∧ Rnd v s w X k wr) (fun t _ => 64 - (intOf t).toNat)
          case atStart => exact ⟨0, by omega, rfl, hR⟩
          case round =>
            obtain ⟨k, hk, rfl, hR⟩ := hrel
            obtain ⟨a0, a1, a2, a3, a4, a5, a6, a7⟩ := s8_cells hR.2.2.2.1
            by_cases hlt : k < 64
            · have k64 : (k : Int) < 64 := by omega
              go_wp2
              go_quiet (fail)
              have hR := rnd_same hR (w1 := wr.drewN nq) rfl rfl rfl rfl
              generalize wr.drewN nq = w1 at hR
              clear a0 a1 a2 a3 a4 a5 a6 a7
              obtain ⟨a0, a1, a2, a3, a4, a5, a6, a7⟩ := s8_cells hR.2.2.2.1
              have ck := cell_at_word hR.2.2.1 k hlt
              have kt : w1.cell? ⟨0, k, none⟩ = some (V32 (Sha.K.getD k 0)) := (hR.2.2.2.2.cell (p := ⟨0, k, none⟩) hw).trans (HK.out k hlt)
              go_wp2
              go_quiet ((exact Calls.quiet_of_same (right_any _ _ (by simp [Turns]) _)))
              have hR := rnd_same hR (w1 := w1.drewN nq) rfl rfl rfl rfl
              generalize w1.drewN nq = w3 at hR
              clear a0 a1 a2 a3 a4 a5 a6 a7 ck kt
              obtain ⟨a0, a1, a2, a3, a4, a5, a6, a7⟩ := s8_cells hR.2.2.2.1
              go_wp2
              go_quiet ((exact Calls.quiet_of_same (right_any _ _ (by simp [Turns]) _)))
              have hR := rnd_same hR (w1 := w3.drewN nq) rfl rfl rfl rfl
              generalize w3.drewN nq = w4 at hR
              clear a0 a1 a2 a3 a4 a5 a6 a7
              obtain ⟨a0, a1, a2, a3, a4, a5, a6, a7⟩ := s8_cells hR.2.2.2.1
              obtain ⟨b0, b1, b2, b3, b4, b5, b6, b7⟩ := s8_free hR.2.2.2.1
              go_wp2
              go_roundw
              case rel =>
                (repeat apply Exists.intro)
                refine ⟨⟨k + 1, by omega, by go_num, rnd_step hR hX _ _ ?_ ?_⟩, rfl⟩
                · simp only [w_xor, w_and, w_not, List.getD_eq_getElem?_getD, Sha.ep, Sha.eq, UInt32.toNat_add]
                  omega
                · simp only [w_xor, w_and, w_not, List.getD_eq_getElem?_getD, Sha.ep, UInt32.toNat_add]
                  omega
              case measure => simp [intOf]; omega
            · obtain rfl : k = 64 := by omega
              go_wp2
              clear a0 a1 a2 a3 a4 a5 a6 a7
              go_loopw [174] (fun t wr => ∃ k : Nat, k ≤ 8 ∧ t = .int .i64 k ∧ Sums v (Sha.rounds s.data.toList v 64) w X k wr) (fun t _ => 8 - (intOf t).toNat)
              case atStart => exact ⟨0, by omega, rfl, ⟨hR.1, hR.2.1, hR.2.2.2.1, hR.2.2.2.2⟩⟩
              case round =>
                obtain ⟨k, hk, rfl, hT⟩ := hrel
                by_cases hlt : k < 8
                · have k8 : (k : Int) < 8 := by omega
                  have c1 := (hT.1.cell k).trans (sums_get v (Sha.rounds s.data.toList v 64) k hlt)
                  have c2 := (hT.2.2.1.cell k).trans (s8_get (Sha.rounds s.data.toList v 64) k hlt)
                  have c3 := hT.1.frozen k
                  go_wp2
                  go_still_tail 8, (by kernel_rfl)
                  change wpList _ _ _ _ _ wr.drew
                  go_wp2
                  go_roundw
                  case rel =>
                    (repeat apply Exists.intro)
                    refine ⟨⟨k + 1, by omega, by go_num, sums_step hT hX hlt _ ?_⟩, rfl⟩
                    rw [UInt32.toNat_add]; rfl
                  case measure => simp [intOf]; omega
                · obtain rfl : k = 8 := by omega
                  obtain ⟨a0, a1, a2, a3, a4, a5, a6, a7⟩ := s8_cells (v := Sha.block v s.data.toList) hT.1
                  have hz : ∀ j : Nat, wr.frozen? ⟨w.heap.size + 1, j, none⟩ = false := hT.2.1.frozen
                  obtain ⟨z0, z1, z2, z3, z4, z5, z6, z7⟩ := s8_cells (v := ⟨0, 0, 0, 0, 0, 0, 0, 0⟩) hT.2.1
                  go_wp2
                  exact bodyPost_ret (v := S8v (Sha.block v s.data.toList)) (results_cell_row rfl _ _ (w.heap.size + 1) _ _ _ _ rfl (fin_heap hT.2.1) Tryd.underlying97 rfl (by kernel_rfl)) rfl ⟨rfl, fin_below hT.2.2.2 (by omega)⟩
end Go.Proofs.YteehpfccegnjjaaDoor
