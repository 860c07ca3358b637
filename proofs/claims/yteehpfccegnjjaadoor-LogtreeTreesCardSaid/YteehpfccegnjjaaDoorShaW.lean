/-
  The contracts of the reference's Pad and Sum.
-/
import Derived.Test.YteehpfccegnjjaaDoorShaV
import Derived.Test.YteehpfccegnjjaaDoorShaS
import Derived.Outline
namespace Go.Proofs.YteehpfccegnjjaaDoor
open Go Go.RowKit

/-- The slice v holds the bytes l, in memory that the call made. -/
def Mine (w : World) (l : List UInt8) (v : Value) (wr : World) : Prop := w.grownBy wr none ∧ Own wr w.heap.size 5 1 v l.length (l.map V8)
theorem Mine.app {w wr w' : World} {l : List UInt8} {v v' : Value} {o : Obj} {n : Nat} {b : UInt8} {x : Int} (h : Mine w l v wr) (hn : n = l.length)
    (hA : Appended (wr.alloc o) w.heap.size 5 1 v (n + 1) (l.map V8 ++ [.int .u8 x]) v' w') (hx : x = (b.toNat : Int)) : Mine w (l ++ [b]) v' w' := by
  subst hn hx
  obtain ⟨h1, h2⟩ := h
  obtain ⟨a1, a2, _⟩ := hA
  refine ⟨⟨a2.os.trans h1.os, a2.tape.trans h1.tape, a2.output.trans h1.output, Nat.le_trans h1.size (Nat.le_trans (by simp) a2.size), fun k hk _ => ?_⟩, by simpa using a1⟩
  rw [a2.block k (by simp; have := h1.size; omega) (fun e => by have := (h2.lt k e.symm).1; omega), Below.heap_alloc wr o k (Nat.lt_of_lt_of_le hk h1.size)]
  exact h1.block k hk (by simp)

set_option maxRecDepth 100000 in
set_option maxHeartbeats 4000000 in
theorem pad_any (l : List UInt8) (hl : l.length ≤ 4294967296) (w : World) :
    Calls Tryd.prog 57 #[.string (bs l)] w fun e w' => ∃ v, e = .returned v ∧ Mine w (Sha.pad l) v w' := by
  obtain ⟨i0, hi, hz0, hz1, hz2⟩ := info_parts info5
  have Hi := Lib.hid hi; clear hi
  have Hz0 := Lib.hid hz0; clear hz0
  have Hz1 := Lib.hid hz1; clear hz1
  have Hz2 := Lib.hid hz2; clear hz2
  have hsz : (bs l).size ≤ maxLen := by simp [ByteArray.size, maxLen]; omega
  have Hsz := Lib.hid hsz; clear hsz
  go_enter Tryd.func57, Tryd.ntmps57
  go_wp2_with (first | ((with_reducible refine at_conv 9 98 (.tmp 6) ?_); refine wpList_toBytes rfl 9 98 5 (.tmp 6) rfl (bs l) rfl Tryd.underlying9 Tryd.underlying98 Tryd.underlying5 w.heap.size (Nat.le_refl _) Hsz.out ?_; intro v1 w1 hO hg hv; have hR : Mine w l v1 w1 := ⟨hg, by simpa [ByteArray.size] using hO⟩; have hs1 := hR.1.size; clear hO hg hv) | ((with_reducible refine at_app (.tmp 7) (.tmp 8) ?_); refine wpList_app rfl (.tmp 7) (.tmp 8) 98 rfl w.heap.size 5 i0 _ 1 1 Tryd.underlying98 Hi.out Hz0.out Hz1.out Hz2.out rfl v1 l.length _ rfl (hR.2.alloc _) ⟨w1.heap.size, 0, none⟩ 1 1 [.int .u8 128] rfl rfl (news_one _ _ _) (one_oneCell rfl) ?_ ?_ ?_ ?_; (unfold maxLen; omega); omega; (simp; omega); intro v2 w2 hA; have hR2 := hR.app (b := 128) rfl hA rfl; clear hA hR hs1))
  go_loopw [3] (fun v wr => ∃ j : Nat, j ≤ Sha.zeros l.length ∧ Mine w (l ++ 128 :: List.replicate j 0) v wr) (fun v _ => match v with | .slice _ n _ => l.length + 1 + Sha.zeros l.length - n | _ => 0)
  case atStart => exact ⟨0, Nat.zero_le _, hR2⟩
  case round =>
    obtain ⟨j, hj, hR⟩ := hrel
    have hzl := Sha.zeros_lt l.length
    obtain ⟨av, cv, rfl⟩ := hR.2.shape
    have hm : (l ++ 128 :: List.replicate j 0 : List UInt8).length = l.length + 1 + j := by simp; omega
    have hO := hR.2
    rw [hm] at hR hO ⊢
    have Hm := Lib.hid hm; clear hm
    by_cases hlt : j < Sha.zeros l.length
    · have hne : ((l.length : Int) + 1 + (j : Int)) % 64 ≠ 56 := by have := Sha.zeros_not l.length j hlt; omega
      have hne2 : (((l.length : Int) + 1 + (j : Int)) % 64 == 56) = false := by simpa using hne
      have hs := hR.1.size
      go_wp2_with ((with_reducible refine at_app (.tmp 14) (.tmp 15) ?_); refine wpList_app rfl (.tmp 14) (.tmp 15) 98 rfl w.heap.size 5 i0 _ 1 1 Tryd.underlying98 Hi.out Hz0.out Hz1.out Hz2.out rfl (.slice av (l.length + 1 + j) cv) (l.length + 1 + j) _ rfl (hO.alloc _) ⟨wr.heap.size, 0, none⟩ 1 1 [.int .u8 0] rfl rfl (news_one _ _ _) (one_oneCell rfl) ?_ ?_ ?_ ?_; (unfold maxLen; omega); omega; (simp; omega); intro v3 w3 hA; have hR3 := hR.app (b := 0) Hm.out.symm hA rfl; clear hA hO)
      go_roundw
      case rel => exact ⟨j + 1, by omega, by rw [List.replicate_succ']; simpa using hR3⟩
      case measure =>
        obtain ⟨a3, c3, rfl⟩ := hR3.2.shape
        simp; omega
    · obtain rfl : j = Sha.zeros l.length := by omega
      have hne : ((l.length : Int) + 1 + (Sha.zeros l.length : Int)) % 64 = 56 := by have := Sha.zeros_end l.length; omega
      have hne2 : (((l.length : Int) + 1 + (Sha.zeros l.length : Int)) % 64 != 56) = false := by simpa using hne
      have Hne := Lib.hid hne; clear hne
      clear hO
      go_wp2_with fail
      have hlen8 : l.length + 1 + Sha.zeros l.length = (l ++ 128 :: List.replicate (Sha.zeros l.length) 0).length := Hm.out.symm
      generalize hu : (l ++ 128 :: List.replicate (Sha.zeros l.length) 0 : List UInt8) = u at hR hlen8
      have Hu := Lib.hid hu; clear hu
      rw [hlen8] at hR ⊢
      go_loopw [3, 5] (fun v i wr => ∃ k : Nat, k ≤ 8 ∧ i = .int .i64 (7 - k) ∧ Mine w (u ++ (Sha.be64 (8 * l.length)).take k) v wr) (fun _ i _ => (intOf i + 1).toNat)
      case atStart => exact ⟨0, by omega, rfl, by simpa using hR⟩
      case round =>
        obtain ⟨k, hk, rfl, hR⟩ := hrel
        obtain ⟨av, cv, rfl⟩ := hR.2.shape
        have hm : (u ++ (Sha.be64 (8 * l.length)).take k).length = u.length + k := by simp [Sha.be64_length]; omega
        have hO := hR.2
        rw [hm] at hR hO ⊢
        have Hm := Lib.hid hm; clear hm
        have hs := hR.1.size
        by_cases hlt : k < 8
        · obtain ⟨b, hb⟩ : ∃ b, b = (Sha.be64 (8 * l.length)).getD k 0 := ⟨_, rfl⟩
          have Hb := Lib.hid hb; clear hb
          rcases lt8 hlt with rfl | rfl | rfl | rfl | rfl | rfl | rfl | rfl
          all_goals
            go_wp2_with ((with_reducible refine at_app (.tmp 24) (.tmp 30) ?_); refine wpList_app rfl (.tmp 24) (.tmp 30) 98 rfl w.heap.size 5 i0 _ 1 1 Tryd.underlying98 Hi.out Hz0.out Hz1.out Hz2.out rfl _ _ _ rfl (hO.alloc _) ⟨wr.heap.size, 0, none⟩ 1 1 [_] rfl rfl (news_one _ _ _) (one_oneCell rfl) ?_ ?_ ?_ ?_; (unfold maxLen; omega); omega; (simp; omega); intro v3 w3 hA; clear hO)
            go_roundw
            case rel =>
              refine ⟨_, Nat.succ_le_of_lt hlt, by go_num, ?_⟩
              have := hR.app (b := b) Hm.out.symm hA (by rw [Hb.out]; simp [Sha.be64, Nat.shiftRight_eq_div_pow] <;> omega)
              rw [Hb.out] at this
              simpa [Sha.be64] using this
            case measure => simp [intOf]
        · obtain rfl : k = 8 := by omega
          go_wp2_with fail
          go_ret
          refine ⟨_, rfl, ?_⟩
          have e : u ++ (Sha.be64 (8 * l.length)).take 8 = Sha.pad l := by rw [← Hu.out]; simp [Sha.pad, Sha.tail, Sha.be64]
          rw [← e]
          exact hR

/-- What stands while the reference takes the blocks: the result, the state, the memory that was there. -/
def StatR (w : World) (st : Sha.S8) (wr : World) : Prop := Arr wr w.heap.size 23 (List.replicate 32 (V8 0)) ∧ Arr wr (w.heap.size + 1) 97 (S8l st) ∧ Below w.heap.size w wr
theorem StatR.size {w wr : World} {st : Sha.S8} (h : StatR w st wr) : w.heap.size + 1 + 1 ≤ wr.heap.size := h.2.1.lt
theorem StatR.grown {w wr w' : World} {st : Sha.S8} {r : Option Nat} (h : StatR w st wr) (hg : wr.grownBy w' r) (hr : ∀ k, r = some k → w.heap.size + 1 + 1 ≤ k) : StatR w st w' := by
  obtain ⟨h1, h2, h3⟩ := h
  have e : ∀ b, b < w.heap.size + 1 + 1 → some b ≠ r := fun b hb e => by have := hr b e.symm; omega
  refine ⟨?_, ?_, h3.grown hg h3.size fun k hk => by have := hr k hk; omega⟩
  · unfold Arr; rw [hg.block _ h1.lt (e _ (by omega))]; exact h1
  · unfold Arr; rw [hg.block _ h2.lt (e _ (by omega))]; exact h2
theorem StatR.put {w wr : World} {st x : Sha.S8} (h : StatR w st wr) : StatR w x (putS8 wr (w.heap.size + 1) x) :=
  ⟨put_other h.1 (by omega), put_list h.2.1, fin_below h.2.2 (by omega)⟩
/-- k bytes of a state stand in block D. -/
def DigR (x : Sha.S8) (w : World) (D k : Nat) (wr : World) : Prop :=
  Arr wr D 23 (((Sha.s8b x).take k ++ List.replicate (32 - k) 0).map V8) ∧ Arr wr (w.heap.size + 1) 97 (S8l x) ∧ Arr wr w.heap.size 23 (List.replicate 32 (V8 0)) ∧ Below w.heap.size w wr
theorem digR_cell {x : Sha.S8} {w : World} {D k : Nat} {T : TypeId} (h : Arr w D T (((Sha.s8b x).take k ++ List.replicate (32 - k) 0).map V8)) (j : Nat) (hj : j < 32) :
    ∃ v, w.cell? ⟨D, j, none⟩ = some v := by
  rw [h.cell j]
  have : j < (((Sha.s8b x).take k ++ List.replicate (32 - k) 0).map V8).length := by simp [Sha.s8b_length]; omega
  exact ⟨_, List.getElem?_eq_getElem this⟩
theorem statR_start {w w1 : World} (hg : ((w.alloc (.cells (List.replicate 32 (V8 0)).toArray 23)).alloc (.cells (S8l Sha.init).toArray 97)).grownBy w1 none) : StatR w Sha.init w1 := by
  obtain ⟨h1, h2, h3⟩ := arr2 w 23 97 (List.replicate 32 (V8 0)) (S8l Sha.init)
  exact StatR.grown (r := none) ⟨h1, h2, h3⟩ hg (by simp)
theorem digR_list (x : Sha.S8) (j : Nat) (hj : j < 32) : (((Sha.s8b x).take j ++ List.replicate (32 - j) 0).map V8).set j (V8 ((Sha.s8b x).getD j 0)) = ((Sha.s8b x).take (j + 1) ++ List.replicate (32 - (j + 1)) 0).map V8 := by
  obtain ⟨q, r, hq, hr, rfl⟩ : ∃ q r : Nat, q < 8 ∧ r < 4 ∧ j = 4 * q + r := ⟨j / 4, j % 4, by omega, by omega, by omega⟩
  have hr4 : r = 0 ∨ r = 1 ∨ r = 2 ∨ r = 3 := by omega
  rcases lt8 hq with rfl | rfl | rfl | rfl | rfl | rfl | rfl | rfl <;> rcases hr4 with rfl | rfl | rfl | rfl <;> rfl
theorem digR_step {x : Sha.S8} {w wr : World} {D j : Nat} {v : Value} (h : DigR x w D j wr) (hD : w.heap.size + 1 < D) (hj : j < 32) (hv : v = V8 ((Sha.s8b x).getD j 0)) :
    DigR x w D (j + 1) (wr.setCell ⟨D, j, none⟩ v) := by
  obtain ⟨h1, h2, h3, h4⟩ := h
  subst hv
  refine ⟨?_, h2.other _ _ (by simp; omega), h3.other _ _ (by simp; omega), h4.setCell (by simp; omega) _⟩
  have := h1.set j (V8 ((Sha.s8b x).getD j 0))
  rw [digR_list x j hj] at this
  exact this
theorem digR_byte (x : Sha.S8) (q : Nat) (hq : q < 8) :
    Value.int .u8 ((((S8w x)[q]?.getD 0).toNat : Int) / (16777216 : Int) % (256 : Int)) = V8 ((Sha.s8b x).getD (4 * q) 0) ∧ Value.int .u8 ((((S8w x)[q]?.getD 0).toNat : Int) / (65536 : Int) % (256 : Int)) = V8 ((Sha.s8b x).getD (4 * q + 1) 0) ∧
    Value.int .u8 ((((S8w x)[q]?.getD 0).toNat : Int) / (256 : Int) % (256 : Int)) = V8 ((Sha.s8b x).getD (4 * q + 2) 0) ∧ Value.int .u8 ((((S8w x)[q]?.getD 0).toNat : Int) % (256 : Int)) = V8 ((Sha.s8b x).getD (4 * q + 3) 0) := by
  obtain ⟨e1, e2, e3, e4⟩ := byte_of ((S8w x)[q]?.getD 0)
  rw [e1, e2, e3, e4]
  rcases lt8 hq with rfl | rfl | rfl | rfl | rfl | rfl | rfl | rfl <;> exact ⟨rfl, rfl, rfl, rfl⟩
theorem infoR (d : List UInt8) (h : d.length = 32) : (Tryd.prog.info? 23).map (·.size) = some (d.map V8).toArray.size := by
  rw [List.size_toArray, List.length_map, h]; kernel_rfl

set_option maxRecDepth 100000 in
set_option maxHeartbeats 4000000 in
theorem sumR_any (l : List UInt8) (hl : l.length ≤ 4294967296) (w : World) :
    Calls Tryd.prog 27 #[.string (bs l)] w fun e w' => e = .returned (Dv (Sha.sum l)) ∧ Below w.heap.size w w' := by
  have hpl := Sha.pad_length l
  have hpb : (Sha.pad l).length ≤ l.length + 128 := by rw [Sha.pad, List.length_append, Sha.tail_length]; have := Sha.zeros_lt l.length; omega
  have hpp : 0 < (Sha.pad l).length := by rw [Sha.pad, List.length_append, Sha.tail_length]; omega
  have Hpl := Lib.hid hpl; clear hpl
  go_enter Tryd.func27, Tryd.ntmps27
  go_wp2_with fail
  have hA := arr2 w 23 97 (List.replicate 32 (V8 0)) (S8l Sha.init)
  refine (pad_any l hl _).mono ?_
  rintro e w1 ⟨v, rfl, hM⟩
  have hS : StatR w Sha.init w1 := statR_start hM.1
  have hO := hM.2.mono (show w.heap.size + 1 + 1 ≤ _ by simp)
  clear hA hM
  obtain ⟨g, cap, hv, hcap, hcm⟩ := hO.pos hpp
  subst hv
  have hg := (hO.lt g rfl).1
  have hR := hO
  clear hO
  generalize hU : Sha.pad l = U at hR hpp hpb hcap Hpl
  have HU := Lib.hid hU; clear hU
  go_wp2_with fail
  go_loopw [5] (fun i wr => ∃ m : Nat, 64 * m ≤ U.length ∧ i = .int .i64 (64 * m : Nat) ∧ StatR w (Sha.absorb m Sha.init U) wr ∧ Own wr (w.heap.size + 1 + 1) 5 1 (.slice (some ⟨g, 0, none⟩) U.length cap) U.length (U.map V8)) (fun i _ => U.length - (intOf i).toNat)
  case atStart => exact ⟨0, by omega, rfl, hS, hR⟩
  case round =>
    obtain ⟨m, hm, rfl, hS, hO⟩ := hrel
    by_cases hlt : 64 * m < U.length
    · have hle : 64 * m + 64 ≤ U.length := by have := Hpl.out; omega
      obtain ⟨a0, a1, a2, a3, a4, a5, a6, a7⟩ := s8_cells hS.2.1
      have e1 : IntKind.i64.wrap (64 * (m : Int) + 64) = 64 * (m : Int) + 64 := i64_nat (64 * m + 64) (by omega)
      have e2 : 0 ≤ 64 * (m : Int) := by omega
      have e3 : 64 * (m : Int) ≤ 64 * (m : Int) + 64 := by omega
      have e4 : 64 * (m : Int) + 64 ≤ (cap : Int) := by omega
      have e5 : (64 * (m : Int) + 64).toNat = 64 * m + 64 := by omega
      have e6 : (64 * (m : Int)).toNat = 64 * m := by omega
      have e7 : ¬ cap = 64 * m := by omega
      have e8 : 0 ≤ 64 * (m : Int) + 64 := by omega
      go_wp2_with fail
      go_still_tail 6, (by kernel_rfl)
      change wpList _ _ _ _ _ wr.drew
      go_wp2_with fail
      refine (blockR_any (Sha.absorb m Sha.init U) ((U.drop (64 * m)).take 64) (by simp; omega) g (64 * m) (cap - 64 * m) _ ?_ ?_).mono ?_
      · exact (hO.lt g rfl).2
      · have hb := hO.bytes.part (64 * m) 64 hle
        rw [Nat.zero_add] at hb
        exact hb.same rfl
      rintro e w2 ⟨rfl, hb2⟩
      clear a0 a1 a2 a3 a4 a5 a6 a7
      have hS2 : StatR w (Sha.absorb m Sha.init U) w2 := hS.grown (r := none) ⟨hb2.os, hb2.tape, hb2.output, hb2.size, fun k hk _ => hb2.block k hk⟩ (by simp)
      have hO2 : Own w2 (w.heap.size + 1 + 1) 5 1 (.slice (some ⟨g, 0, none⟩) U.length cap) U.length (U.map V8) := (hO.same (w' := wr.drew) rfl).below hb2 (Nat.le_refl _)
      obtain ⟨a0, a1, a2, a3, a4, a5, a6, a7⟩ := s8_cells hS2.2.1
      obtain ⟨b0, b1, b2, b3, b4, b5, b6, b7⟩ := s8_free hS2.2.1
      unfold S8v
      go_wp2_with fail
      go_roundw
      case rel =>
        refine ⟨m + 1, by omega, by go_num, ?_, ?_⟩
        · rw [Sha.absorb_snoc]
          exact hS2.put (x := Sha.block (Sha.absorb m Sha.init U) ((U.drop (64 * m)).take 64))
        · exact own_put hO2 (fun e => by have := Option.some.inj e; simp at this; omega)
      case measure => simp [intOf]; omega
    · have hfin : Sha.s8b (Sha.absorb m Sha.init U) = Sha.sum l := by rw [Sha.sum, HU.out, show U.length / 64 = m by omega]
      have Hfin := Lib.hid hfin; clear hfin
      generalize Sha.absorb m Sha.init U = x at hS Hfin
      have hsz := hS.size
      go_wp2_with fail
      have hD : DigR x w wr.heap.size 0 (wr.alloc (.cells (List.replicate 32 (V8 0)).toArray 23)) := ⟨Arr.new _ _ _, hS.2.1.alloc _, hS.1.alloc _, hS.2.2.alloc hS.2.2.size _⟩
      change Code.wp _ _ _ _ (wr.alloc (.cells (List.replicate 32 (V8 0)).toArray 23))
      have hDl : w.heap.size + 1 < wr.heap.size := by omega
      generalize wr.alloc (.cells (List.replicate 32 (V8 0)).toArray 23) = w5 at hD
      generalize wr.heap.size = D at hD hDl
      clear hO hsz hS
      go_loopw [7] (fun i wr => ∃ k : Nat, k ≤ 32 ∧ i = .int .i64 k ∧ DigR x w D k wr) (fun i _ => 32 - (intOf i).toNat)
      case atStart => exact ⟨0, by omega, rfl, hD⟩
      case round =>
        obtain ⟨k, hk, rfl, hD⟩ := hrel
        by_cases hk32 : k < 32
        · have hf := hD.1.frozen k
          obtain ⟨q, r, hr, rfl⟩ : ∃ q r : Nat, r < 4 ∧ k = 4 * q + r := ⟨k / 4, k % 4, by omega, by omega⟩
          obtain ⟨q0, d0⟩ := digR_cell hD.1 (4 * q + r) (by omega)
          have hx := (hD.2.1.cell q).trans (s8_get x q (by omega))
          have hr4 : r = 0 ∨ r = 1 ∨ r = 2 ∨ r = 3 := by omega
          rcases hr4 with rfl | rfl | rfl | rfl
          · have m0 : (4 * (q : Int)) / 4 = q := by omega
            have m1 : (4 * (q : Int)) % 4 = 0 := by omega
            simp only [Nat.add_zero] at d0 hf hD hk32 ⊢
            go_wp2_with fail
            go_roundw
            case rel => exact ⟨4 * q + 1, by omega, by go_num, digR_step hD hDl hk32 (digR_byte x q (by omega)).1⟩
            case measure => simp [intOf]; omega
          · have m0 : (4 * (q : Int) + 1) / 4 = q := by omega
            have m1 : (4 * (q : Int) + 1) % 4 = 1 := by omega
            go_wp2_with fail
            go_roundw
            case rel => exact ⟨4 * q + 1 + 1, by omega, by go_num, digR_step hD hDl hk32 (digR_byte x q (by omega)).2.1⟩
            case measure => simp [intOf]; omega
          · have m0 : (4 * (q : Int) + 2) / 4 = q := by omega
            have m1 : (4 * (q : Int) + 2) % 4 = 2 := by omega
            go_wp2_with fail
            go_roundw
            case rel => exact ⟨4 * q + 2 + 1, by omega, by go_num, digR_step hD hDl hk32 (digR_byte x q (by omega)).2.2.1⟩
            case measure => simp [intOf]; omega
          · have m0 : (4 * (q : Int) + 3) / 4 = q := by omega
            have m1 : (4 * (q : Int) + 3) % 4 = 3 := by omega
            go_wp2_with fail
            go_roundw
            case rel => exact ⟨4 * q + 3 + 1, by omega, by go_num, digR_step hD hDl hk32 (digR_byte x q (by omega)).2.2.2⟩
            case measure => simp [intOf]; omega
        · obtain rfl : k = 32 := by omega
          have hl32 := Sha.s8b_length x
          have hD1 : Arr wr D 23 ((Sha.s8b x).map V8) := hD.1
          generalize Sha.s8b x = d at hD1 hl32 Hfin
          have Hl := Lib.hid hl32; clear hl32
          go_wp2_with (first | ((with_reducible refine at_ld 23 (.tmp 6) ?_); refine wpList_load_row rfl 23 (.tmp 6) rfl D rfl 23 (d.map V8).toArray (0, 0) _ hD1 Tryd.underlying23 rfl (infoR d Hl.out) ?_) | ((with_reducible refine at_st 23 (.tmp 2) (.tmp 40) ?_); refine wpList_store_row rfl 23 (.tmp 2) (.tmp 40) rfl w.heap.size (d.map V8).toArray rfl rfl 23 (List.replicate 32 (V8 0)).toArray hD.2.2.1 (infoR d Hl.out) (by rw [List.size_toArray, List.size_toArray, List.length_map, Hl.out]; rfl) (v8_one _) ?_))
          refine bodyPost_ret (v := Dv d) (results_cell_row rfl _ _ w.heap.size 23 _ _ _ rfl (setRow_heap _ _ _ _ _ _ hD.2.2.1) Tryd.underlying23 rfl (infoR d Hl.out)) rfl ⟨by rw [Hfin.out], below_setRow hD.2.2.2 (Nat.le_refl _) _⟩
end Go.Proofs.YteehpfccegnjjaaDoor
