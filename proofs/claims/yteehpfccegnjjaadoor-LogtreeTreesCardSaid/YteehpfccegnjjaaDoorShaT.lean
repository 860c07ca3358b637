/-
  The contracts of (*sha256.Hash).Write and Sum on a Hash to which nothing was written, and of sha256.Sum.
-/
import Derived.Test.YteehpfccegnjjaaDoorShaB
import Derived.Test.YteehpfccegnjjaaDoorShaP
import Derived.Test.YteehpfccegnjjaaDoorOwnB
namespace Go.Proofs.YteehpfccegnjjaaDoor
open Go Go.RowKit

/-- A text as a string. -/
abbrev bs (l : List UInt8) : ByteArray := ⟨l.toArray⟩
/-- The cells of a Hash. -/
def Hl (st : Sha.S8) (t : List UInt8) (n : Nat) : List Value := S8l st ++ [.string (bs t), .int .i64 n]
def S0 : Sha.S8 := ⟨0, 0, 0, 0, 0, 0, 0, 0⟩

theorem hl_cells {w : World} {b : Nat} {T : TypeId} {st : Sha.S8} {t : List UInt8} {n : Nat} (h : Arr w b T (Hl st t n)) :
    w.cell? ⟨b, 0, none⟩ = some (V32 st.a) ∧ w.cell? ⟨b, 1, none⟩ = some (V32 st.b) ∧ w.cell? ⟨b, 2, none⟩ = some (V32 st.c) ∧ w.cell? ⟨b, 3, none⟩ = some (V32 st.d) ∧
    w.cell? ⟨b, 4, none⟩ = some (V32 st.e) ∧ w.cell? ⟨b, 5, none⟩ = some (V32 st.f) ∧ w.cell? ⟨b, 6, none⟩ = some (V32 st.g) ∧ w.cell? ⟨b, 7, none⟩ = some (V32 st.h) ∧
    w.cell? ⟨b, 8, none⟩ = some (.string (bs t)) ∧ w.cell? ⟨b, 9, none⟩ = some (.int .i64 n) :=
  ⟨(h.cell 0).trans rfl, (h.cell 1).trans rfl, (h.cell 2).trans rfl, (h.cell 3).trans rfl, (h.cell 4).trans rfl, (h.cell 5).trans rfl, (h.cell 6).trans rfl, (h.cell 7).trans rfl, (h.cell 8).trans rfl, (h.cell 9).trans rfl⟩

theorem ktab_grown {w w1 : World} {H : Nat} (h : KTab w) (hG : w.grownBy w1 (some H)) (hc : 0 < w.heap.size) (hn : 0 ≠ H) : KTab w1 := fun i hi => by
  rw [← h i hi]
  exact World.cell?_of_block (hG.block _ hc (fun e => hn (Option.some.inj e)))
theorem bs_append (a b : List UInt8) : bs a ++ bs b = bs (a ++ b) := by
  apply ByteArray.ext
  apply Array.ext'
  simp
theorem bs_extract (l : List UInt8) (a b : Nat) : (bs l).extract a b = bs ((l.drop a).take (b - a)) := by
  apply ByteArray.ext
  apply Array.ext'
  simp

theorem put_hl {w : World} {b : Nat} {T : TypeId} {st x : Sha.S8} {t : List UInt8} {n : Nat} (h : Arr w b T (Hl st t n)) : Arr (putS8 w b x) b T (Hl x t n) :=
  (((((((h.set 0 (V32 x.a)).set 1 (V32 x.b)).set 2 (V32 x.c)).set 3 (V32 x.d)).set 4 (V32 x.e)).set 5 (V32 x.f)).set 6 (V32 x.g)).set 7 (V32 x.h)
theorem grown_cell {w u : World} {H : Nat} (hu : w.grownBy u (some H)) (j : Nat) (z : Value) : w.grownBy (u.setCell ⟨H, j, none⟩ z) (some H) :=
  ⟨hu.os, hu.tape, hu.output, by rw [show (u.setCell ⟨H, j, none⟩ z).heap.size = u.heap.size by simp [World.setCell]]; exact hu.size, fun k hk hne => by
    rw [heap_setCell_other u ⟨H, j, none⟩ k z (fun e => hne (by rw [e]))]; exact hu.block k hk hne⟩
theorem grown_put {w u : World} {H : Nat} {x : Sha.S8} (hu : w.grownBy u (some H)) : w.grownBy (putS8 u H x) (some H) :=
  grown_cell (grown_cell (grown_cell (grown_cell (grown_cell (grown_cell (grown_cell (grown_cell hu _ _) _ _) _ _) _ _) _ _) _ _) _ _) _ _
theorem grown_below {w w1 : World} {H : Option Nat} (h : Below w.heap.size w w1) : w.grownBy w1 H := ⟨h.os, h.tape, h.output, h.size, fun k hk _ => h.block k hk⟩

theorem grown_next {w wr w1 w2 : World} {r : Option Nat} (hG : w.grownBy wr r) (hs : SameHeap wr w1) (hb : Below w1.heap.size w1 w2) : w.grownBy w2 r := by
  have e : w1.heap.size = wr.heap.size := by rw [hs.heap]
  refine ⟨by rw [hb.os, hs.os, hG.os], by rw [hb.tape, hs.tape, hG.tape], by rw [hb.output, hs.output, hG.output], Nat.le_trans hG.size (by rw [← e]; exact hb.size), fun k hk hne => ?_⟩
  rw [hb.block k (by have := hG.size; omega), hs.heap]
  exact hG.block k hk hne

/-- string(b), its outcome known. -/
theorem wpList_toStr {P : Program} {ops : Array Oper} {rest : List Oper} {o : Oper} {a : Act} {w : World} {Q : Exit → Act → World → Prop} (hgd : o.guard = none) (src dst : TypeId) (x : Operand) (ho : o.op = .convert src dst x) (v : Value) (hx : a.eval x = v) (s : ByteArray)
    (hr : (convert src dst v).run P w = .ok (.string s) w) (h : wpList P ops Q rest (a.put o.dst (.string s)) w) : wpList P ops Q (o :: rest) a w :=
  wpList_plain hgd fun _ hK => by
    unfold Oper.wp execOp
    simp only [ho, hx, Sem.run_bind, Sem.run_pure, Result.andThen_ok, hr]
    exact hK _ _ h

theorem Arr.grown {w w' : World} {b : Nat} {T : TypeId} {l : List Value} (h : Arr w b T l) (hg : w.grownBy w' none) : Arr w' b T l := by
  unfold Arr; rw [hg.block b h.lt (by simp)]; exact h

theorem tail_hl {w : World} {b : Nat} {T : TypeId} {st : Sha.S8} {t : List UInt8} {n : Nat} (h : Arr w b T (Hl st t n)) (u : List UInt8) : Arr (w.setCell ⟨b, 8, none⟩ (.string (bs u))) b T (Hl st u n) := h.set 8 _
theorem grown_fresh {w wr w1 : World} {r : Option Nat} (hG : w.grownBy wr r) (h : wr.grownBy w1 none) : w.grownBy w1 r :=
  ⟨h.os.trans hG.os, h.tape.trans hG.tape, h.output.trans hG.output, Nat.le_trans hG.size h.size, fun k hk hne => (h.block k (Nat.lt_of_lt_of_le hk hG.size) (by simp)).trans (hG.block k hk hne)⟩

theorem wr_start {w w1 : World} {H : Nat} (hB : w.grownBy w1 (some H)) (h : Arr w1 H 123 (Hl S0 [] 0)) (l : List UInt8) :
    let w2 := ((((((((w1.setCell ⟨H, 0, none⟩ (V32 Sha.init.a)).setCell ⟨H, 1, none⟩ (V32 Sha.init.b)).setCell ⟨H, 2, none⟩ (V32 Sha.init.c)).setCell ⟨H, 3, none⟩ (V32 Sha.init.d)).setCell ⟨H, 4, none⟩ (V32 Sha.init.e)).setCell ⟨H, 5, none⟩ (V32 Sha.init.f)).setCell ⟨H, 6, none⟩ (V32 Sha.init.g)).setCell ⟨H, 7, none⟩ (V32 Sha.init.h)).setCell ⟨H, 9, none⟩ (.int .i64 l.length)
    Arr w2 H 123 (Hl Sha.init [] l.length) ∧ w.grownBy w2 (some H) := by
  have g : ∀ {u : World} (j : Nat) (z : Value), w.grownBy u (some H) → w.grownBy (u.setCell ⟨H, j, none⟩ z) (some H) := fun {u} j z hu =>
    ⟨hu.os, hu.tape, hu.output, by rw [show (u.setCell ⟨H, j, none⟩ z).heap.size = u.heap.size by simp [World.setCell]]; exact hu.size, fun k hk hne => by
      rw [heap_setCell_other u ⟨H, j, none⟩ k z (fun e => hne (by rw [e]))]; exact hu.block k hk hne⟩
  refine ⟨?_, g _ _ (g _ _ (g _ _ (g _ _ (g _ _ (g _ _ (g _ _ (g _ _ (g _ _ hB))))))))⟩
  exact ((((((((h.set 0 (V32 Sha.init.a)).set 1 (V32 Sha.init.b)).set 2 (V32 Sha.init.c)).set 3 (V32 Sha.init.d)).set 4 (V32 Sha.init.e)).set 5 (V32 Sha.init.f)).set 6 (V32 Sha.init.g)).set 7 (V32 Sha.init.h)).set 9 (.int .i64 l.length)

set_option maxRecDepth 100000 in
set_option maxHeartbeats 1000000 in
theorem write_any (l : List UInt8) (hl : l.length ≤ 4294967296) (H : Nat) (w : World) (hH : Arr w H 123 (Hl S0 [] 0)) (hc : 0 < w.heap.size) (hcH : 0 ≠ H) (hK : KTab w) :
    Calls Tryd.prog 73 #[.pointer (some ⟨H, 0, none⟩), .string (bs l)] w fun e w' => e = .returned (.int .i64 0) ∧
      w.grownBy w' (some H) ∧ Arr w' H 123 (Hl (if l.length < 64 then S0 else Sha.absorb (l.length / 64) Sha.init l) (l.drop (64 * (l.length / 64))) l.length) := by
  obtain ⟨c0, c1, c2, c3, c4, c5, c6, c7, c8, c9⟩ := hl_cells hH
  have fr : ∀ j : Nat, w.frozen? ⟨H, j, none⟩ = false := hH.frozen
  have Hk := Lib.hid hK; clear hK
  have Hn := Lib.hid hcH; clear hcH
  go_enter Tryd.func73, Tryd.ntmps73
  go_wp2_with fail
  refine (begin_any _).mono ?_
  rintro e w1 ⟨rfl, hb1⟩
  clear c0 c1 c2 c3 c4 c5 c6 c7 c8 c9 fr
  have hH1 := hH.below hb1 hH.lt
  obtain ⟨c0, c1, c2, c3, c4, c5, c6, c7, c8, c9⟩ := hl_cells hH1
  have fr : ∀ j : Nat, w1.frozen? ⟨H, j, none⟩ = false := hH1.frozen
  unfold S8v
  go_wp2_with fail
  have hB : w.grownBy w1 (some H) := ⟨hb1.os, hb1.tape, hb1.output, hb1.size, fun k hk _ => hb1.block k hk⟩
  have hW := wr_start hB hH1 l
  clear c0 c1 c2 c3 c4 c5 c6 c7 c8 c9 fr hH1 hb1 hB
  go_loopw [1] (fun s wr => ∃ k : Nat, 64 * k ≤ l.length ∧ s = .string (bs (l.drop (64 * k))) ∧ Arr wr H 123 (Hl (Sha.absorb k Sha.init l) [] l.length) ∧ w.grownBy wr (some H)) (fun s _ => match s with | .string b => b.size | _ => 0)
  case atStart => exact ⟨0, by omega, by rw [bs_append]; rfl, hW.1, hW.2⟩
  case round =>
    obtain ⟨k, hk, rfl, hA, hG⟩ := hrel
    obtain ⟨c0, c1, c2, c3, c4, c5, c6, c7, c8, c9⟩ := hl_cells hA
    by_cases hlt : 64 * k + 64 ≤ l.length
    · have h64 : 64 ≤ l.length - 64 * k := by omega
      have hx0 := bs_extract (l.drop (64 * k)) 0 64
      have hx1 : (bs (l.drop (64 * k))).extract 64 (l.length - 64 * k) = bs (l.drop (64 * (k + 1))) := by
        rw [bs_extract, List.drop_drop, List.take_of_length_le (by simp; omega), show 64 * k + 64 = 64 * (k + 1) by omega]
      simp only [Nat.sub_zero, List.drop_zero] at hx0
      have hcw : 0 < wr.heap.size := Nat.lt_of_lt_of_le hc hG.size
      have hkw := ktab_grown Hk.out hG hc Hn.out
      have Hkw := Lib.hid hkw; clear hkw
      have hz : (bs ((l.drop (64 * k)).take 64)).size = 64 := by simp [ByteArray.size]; omega
      have Hz := Lib.hid hz; clear hz
      go_wp2_with fail
      go_region_with ((go_at_call 78; go_must (refine (block_any (Sha.absorb k Sha.init l) (bs ((l.drop (64 * k)).take 64)) Hz.out _ ?_ ?_).mono ?_; exact hcw; exact Hkw.out; rintro e w2 ⟨rfl, hb2⟩; have hA2 := hA.drew.below hb2 hA.lt; obtain ⟨d0, d1, d2, d3, d4, d5, d6, d7, d8, d9⟩ := hl_cells hA2; have fr : ∀ j : Nat, w2.frozen? ⟨H, j, none⟩ = false := hA2.frozen; unfold S8v)))
      have hst : Sha.absorb (k + 1) Sha.init l = Sha.block (Sha.absorb k Sha.init l) ((l.drop (64 * k)).take 64) := Sha.absorb_snoc k Sha.init l
      have Hst := Lib.hid hst; clear hst
      go_wp2_with fail
      go_roundw
      case rel => exact ⟨k + 1, by omega, rfl, by rw [Hst.out]; exact put_hl hA2, grown_put (grown_next hG (SameHeap.drew wr) hb2)⟩
      case measure => simp [ByteArray.size]; omega
    · obtain rfl : k = l.length / 64 := by omega
      have hsz : (bs (l.drop (64 * (l.length / 64)))).size ≤ maxLen := by simp [ByteArray.size, maxLen]; omega
      have Hsz := Lib.hid hsz; clear hsz
      clear c0 c1 c2 c3 c4 c5 c6 c7 c8 c9
      by_cases hn : l.length < 64
      all_goals
        go_wp2_with (first | ((with_reducible refine at_conv 9 98 (.tmp 47) ?_); refine wpList_toBytes rfl 9 98 5 (.tmp 47) rfl (bs (l.drop (64 * (l.length / 64)))) rfl Tryd.underlying9 Tryd.underlying98 Tryd.underlying5 0 (Nat.zero_le _) Hsz.out ?_; intro v' w4 hO hg4 hv4; have hA4 := hA.grown hg4; obtain ⟨c0, c1, c2, c3, c4, c5, c6, c7, c8, c9⟩ := hl_cells hA4; have fr : ∀ j : Nat, w4.frozen? ⟨H, j, none⟩ = false := hA4.frozen; have hcv := run_toStr_own (P := Tryd.prog) w4 98 9 5 Tryd.underlying98 Tryd.underlying5 Tryd.underlying9 0 v' (l.drop (64 * (l.length / 64))) _ hO) | ((with_reducible refine at_conv 98 9 (.tmp 48) ?_); refine wpList_toStr rfl 98 9 (.tmp 48) rfl v' rfl (bs (l.drop (64 * (l.length / 64)))) hcv ?_; clear hcv))
        go_ret
      · have hA5 := tail_hl hA4 (l.drop (64 * (l.length / 64)))
        refine ⟨rfl, grown_put (x := S0) (grown_cell (grown_fresh hG hg4) _ _), ?_⟩
        exact put_hl (x := S0) hA5
      · have hA5 := tail_hl hA4 (l.drop (64 * (l.length / 64)))
        refine ⟨rfl, grown_cell (grown_fresh hG hg4) _ _, ?_⟩
        exact hA5
end Go.Proofs.YteehpfccegnjjaaDoor
