/-
  The contracts of (*sha256.Hash).Sum behind a Write, and of sha256.Sum.
-/
import Derived.Test.YteehpfccegnjjaaDoorShaT
import Derived.Outline
namespace Go.Proofs.YteehpfccegnjjaaDoor
open Go Go.RowKit

/-- A digest as a value. -/
def Dv (d : List UInt8) : Value := .agg (d.map V8).toArray

/-- What stands while the rest is padded: the result, the state, the memory that was there. -/
def Stat (w : World) (st : Sha.S8) (wr : World) : Prop := Arr wr w.heap.size 24 (List.replicate 32 (V8 0)) ∧ Arr wr (w.heap.size + 1) 97 (S8l st) ∧ Below w.heap.size w wr
/-- The slice v holds the bytes l. -/
def Rest (w : World) (st : Sha.S8) (l : List UInt8) (v : Value) (wr : World) : Prop := Stat w st wr ∧ Own wr (w.heap.size + 1 + 1) 5 1 v l.length (l.map V8)

theorem Stat.size {w wr : World} {st : Sha.S8} (h : Stat w st wr) : w.heap.size + 1 + 1 ≤ wr.heap.size := h.2.1.lt
theorem Stat.grown {w wr w' : World} {st : Sha.S8} {r : Option Nat} (h : Stat w st wr) (hg : wr.grownBy w' r) (hr : ∀ k, r = some k → w.heap.size + 1 + 1 ≤ k) : Stat w st w' := by
  obtain ⟨h1, h2, h3⟩ := h
  have e : ∀ b, b < w.heap.size + 1 + 1 → some b ≠ r := fun b hb e => by have := hr b e.symm; omega
  refine ⟨?_, ?_, h3.grown hg h3.size fun k hk => by have := hr k hk; omega⟩
  · unfold Arr; rw [hg.block _ h1.lt (e _ (by omega))]; exact h1
  · unfold Arr; rw [hg.block _ h2.lt (e _ (by omega))]; exact h2
theorem Stat.alloc {w wr : World} {st : Sha.S8} (h : Stat w st wr) (o : Obj) : Stat w st (wr.alloc o) := ⟨h.1.alloc _, h.2.1.alloc _, h.2.2.alloc h.2.2.size _⟩
theorem Rest.app {w wr w' : World} {st : Sha.S8} {l : List UInt8} {v v' : Value} {b : UInt8} {o : Obj} {n : Nat} (h : Rest w st l v wr) (hn : n = l.length)
    (hA : Appended (wr.alloc o) (w.heap.size + 1 + 1) 5 1 v (n + 1) (l.map V8 ++ [V8 b]) v' w') : Rest w st (l ++ [b]) v' w' := by
  subst hn
  refine ⟨(h.1.alloc o).grown hA.2.1 fun k hk => (h.2.lt k hk).1, ?_⟩
  have := hA.1
  simpa using this
theorem Rest.app' {w wr w' : World} {st : Sha.S8} {l : List UInt8} {v v' : Value} {o : Obj} {n : Nat} {b : UInt8} {x : Int} (h : Rest w st l v wr) (hn : n = l.length)
    (hA : Appended (wr.alloc o) (w.heap.size + 1 + 1) 5 1 v (n + 1) (l.map V8 ++ [.int .u8 x]) v' w') (hx : x = (b.toNat : Int)) : Rest w st (l ++ [b]) v' w' := by
  subst hx; exact h.app hn hA
theorem Own.pos {w : World} {base : Nat} {e : TypeId} {sz : Nat} {v : Value} {n : Nat} {xs : List Value} (h : Own w base e sz v n xs) (hn : 0 < n) : ∃ g cap, v = .slice (some ⟨g, 0, none⟩) n cap ∧ n ≤ cap ∧ cap ≤ maxLen := by
  rcases h.2 with ⟨_, h0⟩ | ⟨g, cap, cur, fr, hv, _, _, _, h1, h2, _⟩
  · omega
  · exact ⟨g, cap, hv, h1, h2⟩
theorem put_list {w : World} {b : Nat} {T : TypeId} {st x : Sha.S8} (h : Arr w b T (S8l st)) : Arr (putS8 w b x) b T (S8l x) :=
  (((((((h.set 0 (V32 x.a)).set 1 (V32 x.b)).set 2 (V32 x.c)).set 3 (V32 x.d)).set 4 (V32 x.e)).set 5 (V32 x.f)).set 6 (V32 x.g)).set 7 (V32 x.h)
theorem put_other {w : World} {b b' : Nat} {T : TypeId} {l : List Value} {x : Sha.S8} (h : Arr w b T l) (hb : b ≠ b') : Arr (putS8 w b' x) b T l :=
  (((((((h.other _ _ hb).other _ _ hb).other _ _ hb).other _ _ hb).other _ _ hb).other _ _ hb).other _ _ hb).other _ _ hb
theorem Stat.put {w wr : World} {st x : Sha.S8} (h : Stat w st wr) : Stat w x (putS8 wr (w.heap.size + 1) x) :=
  ⟨put_other h.1 (by omega), put_list h.2.1, fin_below h.2.2 (by omega)⟩
theorem own_put {w : World} {base : Nat} {e : TypeId} {sz : Nat} {v : Value} {n : Nat} {xs : List Value} {x : Sha.S8} {b : Nat} (h : Own w base e sz v n xs) (hb : v.ownBlock ≠ some b) : Own (putS8 w b x) base e sz v n xs :=
  (((((((h.setCell _ _ hb).setCell _ _ hb).setCell _ _ hb).setCell _ _ hb).setCell _ _ hb).setCell _ _ hb).setCell _ _ hb).setCell _ _ hb
/-- k words of a state stand as bytes in block D. -/
def Dig (x : Sha.S8) (w : World) (D k : Nat) (wr : World) : Prop :=
  Arr wr D 24 (((Sha.s8b x).take (4 * k) ++ List.replicate (32 - 4 * k) 0).map V8) ∧ Arr wr w.heap.size 24 (List.replicate 32 (V8 0)) ∧ Below w.heap.size w wr
theorem dig_cell {x : Sha.S8} {w : World} {D k : Nat} {T : TypeId} (h : Arr w D T (((Sha.s8b x).take (4 * k) ++ List.replicate (32 - 4 * k) 0).map V8)) (j : Nat) (hj : j < 32) :
    ∃ v, w.cell? ⟨D, j, none⟩ = some v := by
  rw [h.cell j]
  have : j < (((Sha.s8b x).take (4 * k) ++ List.replicate (32 - 4 * k) 0).map V8).length := by simp [Sha.s8b_length]; omega
  exact ⟨_, List.getElem?_eq_getElem this⟩
theorem idx8 (x : Sha.S8) (k : Nat) (hk : k < 8) (w : World) : (Instr.index 97 (.agg #[V32 x.a, V32 x.b, V32 x.c, V32 x.d, V32 x.e, V32 x.f, V32 x.g, V32 x.h]) (.int .i64 k)).run Tryd.prog w = .ok (V32 ((S8w x).getD k 0)) w := by
  rcases lt8 hk with rfl | rfl | rfl | rfl | rfl | rfl | rfl | rfl <;> kernel_rfl
theorem byte_of (x : UInt32) : (x.toNat : Int) / (16777216 : Int) % (256 : Int) = ((x >>> 24).toUInt8.toNat : Int) ∧ (x.toNat : Int) / (65536 : Int) % (256 : Int) = ((x >>> 16).toUInt8.toNat : Int) ∧
    (x.toNat : Int) / (256 : Int) % (256 : Int) = ((x >>> 8).toUInt8.toNat : Int) ∧ (x.toNat : Int) % (256 : Int) = (x.toUInt8.toNat : Int) := by
  refine ⟨?_, ?_, ?_, ?_⟩
  · rw [UInt32.toNat_toUInt8, UInt32.toNat_shiftRight, Nat.shiftRight_eq_div_pow]; rfl
  · rw [UInt32.toNat_toUInt8, UInt32.toNat_shiftRight, Nat.shiftRight_eq_div_pow]; rfl
  · rw [UInt32.toNat_toUInt8, UInt32.toNat_shiftRight, Nat.shiftRight_eq_div_pow]; rfl
  · rw [UInt32.toNat_toUInt8]; rfl
theorem dig_list (x : Sha.S8) (k : Nat) (hk : k < 8) :
    ((((((Sha.s8b x).take (4 * k) ++ List.replicate (32 - 4 * k) 0).map V8).set (4 * k) (V8 (((S8w x).getD k 0) >>> 24).toUInt8)).set (4 * k + 1) (V8 (((S8w x).getD k 0) >>> 16).toUInt8)).set (4 * k + 2) (V8 (((S8w x).getD k 0) >>> 8).toUInt8)).set (4 * k + 3) (V8 ((S8w x).getD k 0).toUInt8) =
      ((Sha.s8b x).take (4 * (k + 1)) ++ List.replicate (32 - 4 * (k + 1)) 0).map V8 := by
  rcases lt8 hk with rfl | rfl | rfl | rfl | rfl | rfl | rfl | rfl <;> rfl
theorem dig_step {x : Sha.S8} {w wr : World} {D k : Nat} (h : Dig x w D k wr) (hD : w.heap.size < D) (hk : k < 8) :
    Dig x w D (k + 1) ((((wr.setCell ⟨D, 4 * k, none⟩ (.int .u8 ((((S8w x)[k]?.getD 0).toNat : Int) / 16777216 % 256))).setCell ⟨D, 4 * k + 1, none⟩ (.int .u8 ((((S8w x)[k]?.getD 0).toNat : Int) / 65536 % 256))).setCell
      ⟨D, 4 * k + 2, none⟩ (.int .u8 ((((S8w x)[k]?.getD 0).toNat : Int) / 256 % 256))).setCell ⟨D, 4 * k + 3, none⟩ (.int .u8 ((((S8w x)[k]?.getD 0).toNat : Int) % 256))) := by
  obtain ⟨h1, h2, h3⟩ := h
  obtain ⟨e1, e2, e3, e4⟩ := byte_of ((S8w x)[k]?.getD 0)
  rw [e1, e2, e3, e4]
  refine ⟨?_, (((h2.other _ _ (by simp; omega)).other _ _ (by simp; omega)).other _ _ (by simp; omega)).other _ _ (by simp; omega), (((h3.setCell (by simp; omega) _).setCell (by simp; omega) _).setCell (by simp; omega) _).setCell (by simp; omega) _⟩
  have := (((h1.set (4 * k) (V8 (((S8w x).getD k 0) >>> 24).toUInt8)).set (4 * k + 1) (V8 (((S8w x).getD k 0) >>> 16).toUInt8)).set (4 * k + 2) (V8 (((S8w x).getD k 0) >>> 8).toUInt8)).set (4 * k + 3) (V8 ((S8w x).getD k 0).toUInt8)
  rw [dig_list x k hk] at this
  simpa only [List.getD_eq_getElem?_getD] using this
theorem info24 (d : List UInt8) (h : d.length = 32) : (Tryd.prog.info? 24).map (·.size) = some (d.map V8).toArray.size := by
  rw [List.size_toArray, List.length_map, h]; kernel_rfl
theorem v8_one (l : List UInt8) : (l.map V8).toArray.all (·.oneCell') = true := by
  rw [Array.all_eq_true_iff_forall_mem]
  intro v hv
  simp only [List.mem_toArray, List.mem_map] at hv
  obtain ⟨x, _, rfl⟩ := hv
  rfl
theorem sum_end {l t u U : List UInt8} {m : Nat} (ht : l.drop (64 * (l.length / 64)) = t) (hu : t ++ 128 :: List.replicate (Sha.zeros l.length) 0 = u) (hU : u ++ (Sha.be64 (8 * l.length)).take 8 = U) (h1 : 64 * m ≤ U.length) (h2 : U.length < 64 * m + 64) :
    Sha.s8b (Sha.absorb m (Sha.absorb (l.length / 64) Sha.init l) U) = Sha.sum l := by
  have e : U = t ++ Sha.tail l.length := by rw [← hU, ← hu]; simp [Sha.tail, Sha.be64]
  rw [Sha.sum_parts, ht, ← e, show U.length / 64 = m by omega]
theorem rest_start {w w1 : World} {st : Sha.S8} {t : List UInt8} {v : Value}
    (hO : Own w1 (w.heap.size + 1 + 1) 5 1 v (bs t).size ((bs t).data.toList.map V8))
    (hg : ((w.alloc (.cells (List.replicate 32 (V8 0)).toArray 24)).alloc (.cells (S8l st).toArray 97)).grownBy w1 none) : Rest w st t v w1 := by
  refine ⟨?_, by simpa [ByteArray.size] using hO⟩
  refine Stat.grown (r := none) ⟨(Arr.new w _ _).alloc _, ?_, ((Below.refl _ _).alloc (Nat.le_refl _) _).alloc (by simp) _⟩ hg (by simp)
  have := Arr.new (w.alloc (.cells (List.replicate 32 (V8 0)).toArray 24)) 97 (S8l st)
  rwa [show (w.alloc (.cells (List.replicate 32 (V8 0)).toArray 24)).heap.size = w.heap.size + 1 by simp] at this

theorem stat_begin {w w0 : World} (hb : Below ((w.alloc (.cells (List.replicate 32 (V8 0)).toArray 24)).alloc (.cells (S8l S0).toArray 97)).heap.size ((w.alloc (.cells (List.replicate 32 (V8 0)).toArray 24)).alloc (.cells (S8l S0).toArray 97)) w0) : Stat w S0 w0 := by
  have h1 := Arr.new (w.alloc (.cells (List.replicate 32 (V8 0)).toArray 24)) 97 (S8l S0)
  rw [show (w.alloc (.cells (List.replicate 32 (V8 0)).toArray 24)).heap.size = w.heap.size + 1 by simp] at h1
  exact Stat.grown (r := none) ⟨(Arr.new w _ _).alloc _, h1, ((Below.refl _ _).alloc (Nat.le_refl _) _).alloc (by simp) _⟩ ⟨hb.os, hb.tape, hb.output, hb.size, fun k hk _ => hb.block k hk⟩ (by simp)
theorem rest_start2 {w w0 w1 : World} {t : List UInt8} {v : Value} (hS : Stat w S0 w0)
    (hO : Own w1 (w.heap.size + 1 + 1) 5 1 v (bs t).size ((bs t).data.toList.map V8))
    (hg : (putS8 w0 (w.heap.size + 1) Sha.init).grownBy w1 none) : Rest w Sha.init t v w1 :=
  ⟨(hS.put (x := Sha.init)).grown hg (by simp), by simpa [ByteArray.size] using hO⟩

theorem info5 : (Tryd.prog.info? 5).map (fun i => (i.zero, i.size, i.bytes)) = some (some (.int .u8 0), 1, 1) := by kernel_rfl

set_option maxRecDepth 100000 in
set_option maxHeartbeats 4000000 in
theorem hsum_any (l : List UInt8) (hl : l.length ≤ 4294967296) (H : Nat) (w : World) (hH : Arr w H 123 (Hl (if l.length < 64 then S0 else Sha.absorb (l.length / 64) Sha.init l) (l.drop (64 * (l.length / 64))) l.length)) (hc : 0 < w.heap.size) (hK : KTab w) :
    Calls Tryd.prog 74 #[.pointer (some ⟨H, 0, none⟩)] w fun e w' => e = .returned (Dv (Sha.sum l)) ∧ Below w.heap.size w w' := by
  have Hk := Lib.hid hK; clear hK
  have hHl := hH.lt
  obtain ⟨i0, hi, hz0, hz1, hz2⟩ := info_parts info5
  by_cases hn : l.length < 64
  focus
    simp only [if_pos hn] at hH
    obtain ⟨c0, c1, c2, c3, c4, c5, c6, c7, c8, c9⟩ := hl_cells hH
    generalize ht : l.drop (64 * (l.length / 64)) = t at c8
    have htl : t.length < 64 := by rw [← ht]; simp; omega
    have htm : t.length % 64 = l.length % 64 := by rw [← ht]; simp; omega
    have Htm := Lib.hid htm; clear htm
    have Ht := Lib.hid ht; clear ht
    have hsz : (bs t).size ≤ maxLen := by simp [ByteArray.size, maxLen]; omega
    have Hsz := Lib.hid hsz; clear hsz
    have Hi := Lib.hid hi; clear hi
    have Hz0 := Lib.hid hz0; clear hz0
    have Hz1 := Lib.hid hz1; clear hz1
    have Hz2 := Lib.hid hz2; clear hz2
    have h0 : Sha.absorb (l.length / 64) Sha.init l = Sha.init := by rw [show l.length / 64 = 0 by omega]; rfl
    have H0 := Lib.hid h0; clear h0
    go_enter Tryd.func74, Tryd.ntmps74
    go_wp2_with (first | (go_at_call 77; refine (begin_any _).mono ?_; rintro e w0 ⟨rfl, hb0⟩; have hSt := stat_begin hb0; obtain ⟨a0, a1, a2, a3, a4, a5, a6, a7⟩ := s8_cells hSt.2.1; obtain ⟨b0, b1, b2, b3, b4, b5, b6, b7⟩ := s8_free hSt.2.1; have c8' : w0.cell? ⟨H, 8, none⟩ = some (.string (bs t)) := (hSt.2.2.cell (p := ⟨H, 8, none⟩) hHl).trans c8; have hsz0 := hSt.size; have hne : ¬ H = w.heap.size + 1 := (by omega); unfold S8v) | ((with_reducible refine at_conv 9 98 (.tmp 26) ?_); refine wpList_toBytes rfl 9 98 5 (.tmp 26) rfl (bs t) rfl Tryd.underlying9 Tryd.underlying98 Tryd.underlying5 (w.heap.size + 1 + 1) ?_ Hsz.out ?_; exact (hSt.put (x := Sha.init)).size; intro v1 w1 hO hg hv; have hR : Rest w (Sha.absorb (l.length / 64) Sha.init l) t v1 w1 := (by rw [H0.out]; exact rest_start2 hSt hO hg); have hs1 := hR.1.size; clear hO hg hv c0 c1 c2 c3 c4 c5 c6 c7 c8 a0 a1 a2 a3 a4 a5 a6 a7 b0 b1 b2 b3 b4 b5 b6 b7 c8' hsz0 hne) | ((with_reducible refine at_app (.tmp 28) (.tmp 29) ?_); refine wpList_app rfl (.tmp 28) (.tmp 29) 98 rfl (w.heap.size + 1 + 1) 5 i0 _ 1 1 Tryd.underlying98 Hi.out Hz0.out Hz1.out Hz2.out rfl v1 t.length _ rfl (hR.2.alloc _) ⟨w1.heap.size, 0, none⟩ 1 1 [V8 128] rfl rfl (news_one _ _ _) (one_oneCell rfl) ?_ ?_ ?_ ?_; (unfold maxLen; omega); omega; (simp; omega); intro v2 w2 hA; have hR2 := hR.app rfl hA; clear hA hR hs1))
    clear H0
  rotate_left
  focus
    simp only [if_neg hn] at hH
    obtain ⟨c0, c1, c2, c3, c4, c5, c6, c7, c8, c9⟩ := hl_cells hH
    generalize ht : l.drop (64 * (l.length / 64)) = t at c8
    have htl : t.length < 64 := by rw [← ht]; simp; omega
    have htm : t.length % 64 = l.length % 64 := by rw [← ht]; simp; omega
    have Htm := Lib.hid htm; clear htm
    have Ht := Lib.hid ht; clear ht
    have hsz : (bs t).size ≤ maxLen := by simp [ByteArray.size, maxLen]; omega
    have Hsz := Lib.hid hsz; clear hsz
    have Hi := Lib.hid hi; clear hi
    have Hz0 := Lib.hid hz0; clear hz0
    have Hz1 := Lib.hid hz1; clear hz1
    have Hz2 := Lib.hid hz2; clear hz2
    go_enter Tryd.func74, Tryd.ntmps74
    go_wp2_with (first | ((with_reducible refine at_conv 9 98 (.tmp 26) ?_); refine wpList_toBytes rfl 9 98 5 (.tmp 26) rfl (bs t) rfl Tryd.underlying9 Tryd.underlying98 Tryd.underlying5 (w.heap.size + 1 + 1) ?_ Hsz.out ?_; simp; intro v1 w1 hO hg hv; have hR : Rest w (Sha.absorb (l.length / 64) Sha.init l) t v1 w1 := rest_start hO hg; have hs1 := hR.1.size; clear hO hg hv c0 c1 c2 c3 c4 c5 c6 c7 c8) | ((with_reducible refine at_app (.tmp 28) (.tmp 29) ?_); refine wpList_app rfl (.tmp 28) (.tmp 29) 98 rfl (w.heap.size + 1 + 1) 5 i0 _ 1 1 Tryd.underlying98 Hi.out Hz0.out Hz1.out Hz2.out rfl v1 t.length _ rfl (hR.2.alloc _) ⟨w1.heap.size, 0, none⟩ 1 1 [V8 128] rfl rfl (news_one _ _ _) (one_oneCell rfl) ?_ ?_ ?_ ?_; (unfold maxLen; omega); omega; (simp; omega); intro v2 w2 hA; have hR2 := hR.app rfl hA; clear hA hR hs1))
  all_goals
    go_loopw [4] (fun v wr => ∃ j : Nat, j ≤ Sha.zeros l.length ∧ Rest w (Sha.absorb (l.length / 64) Sha.init l) (t ++ 128 :: List.replicate j 0) v wr) (fun v _ => match v with | .slice _ n _ => t.length + 1 + Sha.zeros l.length - n | _ => 0)
    case atStart => exact ⟨0, Nat.zero_le _, hR2⟩
    case round =>
      obtain ⟨j, hj, hR⟩ := hrel
      have hzl := Sha.zeros_lt l.length
      obtain ⟨av, cv, rfl⟩ := hR.2.shape
      have hm : (t ++ 128 :: List.replicate j 0 : List UInt8).length = t.length + 1 + j := by simp; omega
      rw [hm]
      by_cases hlt : j < Sha.zeros l.length
      · have hne : ((t.length : Int) + 1 + (j : Int)) % 64 ≠ 56 := by have := Sha.zeros_not l.length j hlt; have := Htm.out; omega
        have hne2 : (((t.length : Int) + 1 + (j : Int)) % 64 == 56) = false := by simpa using hne
        have hs := hR.1.size
        have hO := hR.2
        rw [hm] at hO hR
        have Hm := Lib.hid hm; clear hm
        go_wp2_with ((with_reducible refine at_app (.tmp 35) (.tmp 36) ?_); go_must (refine wpList_app rfl (.tmp 35) (.tmp 36) 98 rfl (w.heap.size + 1 + 1) 5 i0 _ 1 1 Tryd.underlying98 Hi.out Hz0.out Hz1.out Hz2.out rfl (.slice av (t.length + 1 + j) cv) (t.length + 1 + j) _ rfl (hO.alloc _) ⟨wr.heap.size, 0, none⟩ 1 1 [V8 0] rfl rfl (news_one _ _ _) (one_oneCell rfl) ?_ ?_ ?_ ?_; (unfold maxLen; omega); omega; (simp; omega); intro v3 w3 hA; have hR3 := hR.app Hm.out.symm hA; clear hA hO))
        go_roundw
        case rel => exact ⟨j + 1, by omega, by rw [List.replicate_succ']; simpa using hR3⟩
        case measure =>
          obtain ⟨a3, c3, rfl⟩ := hR3.2.shape
          simp; omega
      · have Hm := Lib.hid hm; clear hm
        obtain rfl : j = Sha.zeros l.length := by omega
        have hne : ((t.length : Int) + 1 + (Sha.zeros l.length : Int)) % 64 = 56 := by have := Sha.zeros_end l.length; have := Htm.out; omega
        have hne2 : (((t.length : Int) + 1 + (Sha.zeros l.length : Int)) % 64 != 56) = false := by simpa using hne
        have Hne := Lib.hid hne; clear hne
        have C9 := Lib.hid c9
        have c9' : wr.cell? ⟨H, 9, none⟩ = some (.int .i64 l.length) := (hR.1.2.2.cell (p := ⟨H, 9, none⟩) hHl).trans c9
        clear c9
        go_wp2_with fail
        rw [Hm.out] at hR
        have hlen8 : t.length + 1 + Sha.zeros l.length = (t ++ 128 :: List.replicate (Sha.zeros l.length) 0).length := Hm.out.symm
        generalize hu : (t ++ 128 :: List.replicate (Sha.zeros l.length) 0 : List UInt8) = u at hR hlen8
        have Hu := Lib.hid hu; clear hu
        rw [hlen8] at hR ⊢
        go_loopw [4, 5] (fun v i wr => ∃ k : Nat, k ≤ 8 ∧ i = .int .i64 (7 - k) ∧ Rest w (Sha.absorb (l.length / 64) Sha.init l) (u ++ (Sha.be64 (8 * l.length)).take k) v wr) (fun _ i _ => (intOf i + 1).toNat)
        case atStart => exact ⟨0, by omega, rfl, by simpa using hR⟩
        case round =>
          obtain ⟨k, hk, rfl, hR⟩ := hrel
          obtain ⟨av, cv, rfl⟩ := hR.2.shape
          have hm : (u ++ (Sha.be64 (8 * l.length)).take k).length = u.length + k := by simp [Sha.be64_length]; omega
          rw [hm] at hR ⊢
          have hO := hR.2
          rw [hm] at hO
          have Hm := Lib.hid hm; clear hm
          have hs := hR.1.size
          have c9 : wr.cell? ⟨H, 9, none⟩ = some (.int .i64 l.length) := (hR.1.2.2.cell (p := ⟨H, 9, none⟩) hHl).trans C9.out
          by_cases hlt : k < 8
          · obtain ⟨b, hb⟩ : ∃ b, b = (Sha.be64 (8 * l.length)).getD k 0 := ⟨_, rfl⟩
            have Hb := Lib.hid hb; clear hb
            rcases lt8 hlt with rfl | rfl | rfl | rfl | rfl | rfl | rfl | rfl
            all_goals
              go_wp2_with ((with_reducible refine at_app (.tmp 42) (.tmp 53) ?_); refine wpList_app rfl (.tmp 42) (.tmp 53) 98 rfl (w.heap.size + 1 + 1) 5 i0 _ 1 1 Tryd.underlying98 Hi.out Hz0.out Hz1.out Hz2.out rfl _ _ _ rfl (hO.alloc _) ⟨wr.heap.size, 0, none⟩ 1 1 [_] rfl rfl (news_one _ _ _) (one_oneCell rfl) ?_ ?_ ?_ ?_; (unfold maxLen; omega); omega; (simp; omega); intro v3 w3 hA; clear hO)
              go_roundw
              case rel =>
                refine ⟨_, Nat.succ_le_of_lt hlt, by go_num, ?_⟩
                have := hR.app' (b := b) Hm.out.symm hA (by rw [Hb.out]; simp [Sha.be64, Nat.shiftRight_eq_div_pow]; omega)
                rw [Hb.out] at this
                simpa [Sha.be64] using this
              case measure => simp [intOf]
          · obtain rfl : k = 8 := by omega
            have hU : (u ++ (Sha.be64 (8 * l.length)).take 8).length % 64 = 0 := by
              rw [Hm.out, ← hlen8]; have := Sha.zeros_end l.length; have := Htm.out; omega
            have hUb : (u ++ (Sha.be64 (8 * l.length)).take 8).length ≤ 192 := by rw [Hm.out, ← hlen8]; have := Sha.zeros_lt l.length; omega
            have hUp : 0 < (u ++ (Sha.be64 (8 * l.length)).take 8).length := by rw [Hm.out]; omega
            rw [← Hm.out] at hR ⊢
            generalize hUe : (u ++ (Sha.be64 (8 * l.length)).take 8 : List UInt8) = U at hR hU hUb hUp
            have HUe := Lib.hid hUe; clear hUe
            have HU := Lib.hid hU; clear hU
            obtain ⟨g, cap, hv, hcap, hcm⟩ := hR.2.pos hUp
            rw [hv] at hR ⊢
            clear hv
            have hg := (hR.2.lt g rfl).1
            go_wp2_with fail
            go_loopw [6] (fun i wr => ∃ m : Nat, 64 * m ≤ U.length ∧ i = .int .i64 (64 * m : Nat) ∧ Stat w (Sha.absorb m (Sha.absorb (l.length / 64) Sha.init l) U) wr ∧ Own wr (w.heap.size + 1 + 1) 5 1 (.slice (some ⟨g, 0, none⟩) U.length cap) U.length (U.map V8)) (fun i _ => U.length - (intOf i).toNat)
            case atStart => exact ⟨0, by omega, rfl, hR.1, hR.2⟩
            case round =>
              obtain ⟨m, hm, rfl, hS, hO⟩ := hrel
              by_cases hlt : 64 * m < U.length
              · have hle : 64 * m + 64 ≤ U.length := by have := HU.out; omega
                obtain ⟨a0, a1, a2, a3, a4, a5, a6, a7⟩ := s8_cells hS.2.1
                have e1 : IntKind.i64.wrap (64 * (m : Int) + 64) = 64 * (m : Int) + 64 := i64_nat (64 * m + 64) (by omega)
                have e2 : 0 ≤ 64 * (m : Int) := by omega
                have e3 : 64 * (m : Int) ≤ 64 * (m : Int) + 64 := by omega
                have e4 : 64 * (m : Int) + 64 ≤ (cap : Int) := by omega
                have e5 : (64 * (m : Int) + 64).toNat = 64 * m + 64 := by omega
                have e6 : (64 * (m : Int)).toNat = 64 * m := by omega
                have e7 : ¬ cap = 64 * m := by omega
                have e8 : 0 ≤ 64 * (m : Int) + 64 := by omega
                have hb := hO.bytes.part (64 * m) 64 hle
                have hcv := run_toStr (P := Tryd.prog) wr.drew 98 9 5 Tryd.underlying98 Tryd.underlying5 Tryd.underlying9 g (0 + 64 * m) (cap - 64 * m) ((U.drop (64 * m)).take 64) 64 (by simp; omega) hb
                rw [Nat.zero_add] at hcv
                go_wp2_with fail
                go_still_tail 7, (by kernel_rfl)
                change wpList _ _ _ _ _ wr.drew
                clear hcv
                go_wp2_with fail
                have hz : (bs ((U.drop (64 * m)).take 64)).size = 64 := by simp [ByteArray.size]; omega
                refine (block_any (Sha.absorb m (Sha.absorb (l.length / 64) Sha.init l) U) (bs ((U.drop (64 * m)).take 64)) hz _ ?_ ?_).mono ?_
                · exact Nat.lt_of_lt_of_le hc hS.2.2.size
                · exact fun i hi => (hS.2.2.drew.cell (p := ⟨0, i, none⟩) hc).trans (Hk.out i hi)
                rintro e w2 ⟨rfl, hb2⟩
                clear hz a0 a1 a2 a3 a4 a5 a6 a7
                have hS2 : Stat w (Sha.absorb m (Sha.absorb (l.length / 64) Sha.init l) U) w2 := hS.grown (r := none) ⟨hb2.os, hb2.tape, hb2.output, hb2.size, fun k hk _ => hb2.block k hk⟩ (by simp)
                have hO2 : Own w2 (w.heap.size + 1 + 1) 5 1 (.slice (some ⟨g, 0, none⟩) U.length cap) U.length (U.map V8) := (hO.same (w' := wr.drew) rfl).below hb2 (Nat.le_refl _)
                obtain ⟨a0, a1, a2, a3, a4, a5, a6, a7⟩ := s8_cells hS2.2.1
                obtain ⟨b0, b1, b2, b3, b4, b5, b6, b7⟩ := s8_free hS2.2.1
                unfold S8v
                go_wp2_with fail
                go_roundw
                case rel =>
                  (repeat apply Exists.intro)
                  refine ⟨⟨m + 1, by omega, by go_num, ?_, ?_⟩, rfl⟩
                  · rw [Sha.absorb_snoc]
                    exact hS2.put (x := Sha.block (Sha.absorb m (Sha.absorb (l.length / 64) Sha.init l) U) ((U.drop (64 * m)).take 64))
                  · exact own_put hO2 (fun e => by have := Option.some.inj e; simp at this; omega)
                case measure => simp [intOf]; omega
              · have hfin := sum_end Ht.out Hu.out HUe.out hm (by omega)
                have Hfin := Lib.hid hfin; clear hfin
                generalize Sha.absorb m (Sha.absorb (l.length / 64) Sha.init l) U = x at hS Hfin
                obtain ⟨a0, a1, a2, a3, a4, a5, a6, a7⟩ := s8_cells hS.2.1
                have hsz := hS.size
                have hlt1 : w.heap.size + 1 < wr.heap.size := by omega
                go_wp2_with fail
                have hD : Dig x w wr.heap.size 0 (wr.alloc (.cells (List.replicate 32 (V8 0)).toArray 24)) := ⟨Arr.new _ _ _, hS.1.alloc _, hS.2.2.alloc hS.2.2.size _⟩
                change Code.wp _ _ _ _ (wr.alloc (.cells (List.replicate 32 (V8 0)).toArray 24))
                have hDl : w.heap.size < wr.heap.size := by omega
                generalize wr.alloc (.cells (List.replicate 32 (V8 0)).toArray 24) = w5 at hD
                generalize wr.heap.size = D at hD hDl
                clear a0 a1 a2 a3 a4 a5 a6 a7 hO hsz hlt1 hS
                go_loopw [70] (fun i wr => ∃ k : Nat, k ≤ 8 ∧ i = .int .i64 k ∧ Dig x w D k wr) (fun i _ => 8 - (intOf i).toNat)
                case atStart => exact ⟨0, by omega, rfl, hD⟩
                case round =>
                  obtain ⟨k, hk, rfl, hD⟩ := hrel
                  by_cases hk8 : k < 8
                  · have hf := hD.1.frozen
                    obtain ⟨q0, d0⟩ := dig_cell hD.1 (4 * k) (by omega)
                    obtain ⟨q1, d1⟩ := dig_cell hD.1 (4 * k + 1) (by omega)
                    obtain ⟨q2, d2⟩ := dig_cell hD.1 (4 * k + 2) (by omega)
                    obtain ⟨q3, d3⟩ := dig_cell hD.1 (4 * k + 3) (by omega)
                    have hix := idx8 x k hk8
                    have k8 : (k : Int) < 8 := by omega
                    go_wp2_with fail
                    go_roundw
                    case rel =>
                      exact ⟨k + 1, by omega, by go_num, dig_step hD hDl hk8⟩
                    case measure => simp [intOf]; omega
                  · obtain rfl : k = 8 := by omega
                    have hl32 := Sha.s8b_length x
                    have hD1 : Arr wr D 24 ((Sha.s8b x).map V8) := hD.1
                    generalize Sha.s8b x = d at hD1 hl32 Hfin
                    have Hl := Lib.hid hl32; clear hl32
                    go_wp2_with (first | ((with_reducible refine at_ld 24 (.tmp 7) ?_); refine wpList_load_row rfl 24 (.tmp 7) rfl D rfl 24 (d.map V8).toArray (0, 0) _ hD1 Tryd.underlying24 rfl (info24 d Hl.out) ?_) | ((with_reducible refine at_st 24 (.tmp 2) (.tmp 101) ?_); refine wpList_store_row rfl 24 (.tmp 2) (.tmp 101) rfl w.heap.size (d.map V8).toArray rfl rfl 24 (List.replicate 32 (V8 0)).toArray hD.2.1 (info24 d Hl.out) (by rw [List.size_toArray, List.size_toArray, List.length_map, Hl.out]; rfl) (v8_one _) ?_))
                    refine bodyPost_ret (v := Dv d) (results_cell_row rfl _ _ w.heap.size 24 _ _ _ rfl (setRow_heap _ _ _ _ _ _ hD.2.1) Tryd.underlying24 rfl (info24 d Hl.out)) rfl ⟨by rw [Hfin.out], below_setRow hD.2.2 (Nat.le_refl _) _⟩
end Go.Proofs.YteehpfccegnjjaaDoor
