/-
  The contracts of sha256.Join and Tagged, and of the reference's.
-/
import Derived.Test.YteehpfccegnjjaaDoorShaW
import Derived.Outline
namespace Go.Proofs.YteehpfccegnjjaaDoor.Sha
def be32 (n : Nat) : List UInt8 := [UInt8.ofNat (n >>> 24), UInt8.ofNat (n >>> 16), UInt8.ofNat (n >>> 8), UInt8.ofNat n]
def parts (ps : List (List UInt8)) : List UInt8 := ps.flatMap fun p => be32 p.length ++ p
def join (tag : UInt8) (ps : List (List UInt8)) : List UInt8 := tag :: UInt8.ofNat ps.length :: parts ps
def tagged (tag : UInt8) (ps : List (List UInt8)) : List UInt8 := sum (join tag ps)
end Go.Proofs.YteehpfccegnjjaaDoor.Sha
namespace Go.Proofs.YteehpfccegnjjaaDoor
open Go Go.RowKit

/-- The slice v holds these strings. -/
def Strs (w : World) (v : Value) (ps : List (List UInt8)) : Prop :=
  (v = .slice none 0 0 ∧ ps = []) ∨ ∃ g o cap, v = .slice (some ⟨g, o, none⟩) ps.length cap ∧ g < w.heap.size ∧ ∀ j, j < ps.length → w.cell? ⟨g, o + j, none⟩ = some (.string (bs (ps.getD j [])))
theorem Strs.shape {w : World} {v : Value} {ps : List (List UInt8)} (h : Strs w v ps) : ∃ a cap, v = .slice a ps.length cap := by
  rcases h with ⟨rfl, rfl⟩ | ⟨g, o, cap, rfl, _⟩ <;> exact ⟨_, _, rfl⟩
theorem Strs.below {w w' : World} {v : Value} {ps : List (List UInt8)} (h : Strs w v ps) (hB : Below w.heap.size w w') : Strs w' v ps := by
  rcases h with h | ⟨g, o, cap, rfl, hg, hc⟩
  · exact .inl h
  · exact .inr ⟨g, o, cap, rfl, Nat.lt_of_lt_of_le hg hB.size, fun j hj => (hB.cell (p := ⟨g, o + j, none⟩) hg).trans (hc j hj)⟩

theorem Strs.cell {w : World} {av : Option Addr} {cv : Nat} {ps : List (List UInt8)} (h : Strs w (.slice av ps.length cv) ps) (k : Nat) (hk : k < ps.length) :
    ∃ g o, av = some ⟨g, o, none⟩ ∧ g < w.heap.size ∧ w.cell? ⟨g, o + k, none⟩ = some (.string (bs (ps.getD k []))) := by
  rcases h with ⟨_, rfl⟩ | ⟨g, o, cap, hv, hg, hc⟩
  · exact absurd hk (by simp)
  · simp only [Value.slice.injEq] at hv
    exact ⟨g, o, hv.1, hg, hc k hk⟩
theorem grownBy_alloc (w : World) (o : Obj) : w.grownBy (w.alloc o) none := ⟨rfl, rfl, rfl, by simp, fun k hk _ => Below.heap_alloc w o k hk⟩
theorem grownBy_refl (w : World) : w.grownBy w none := ⟨rfl, rfl, rfl, Nat.le_refl _, fun _ _ _ => rfl⟩
theorem Mine.more {w wr wr' w' : World} {l r : List UInt8} {v v' : Value} {n m : Nat} {xs : List Value} (h : Mine w l v wr) (hn : n = l.length) (hg : wr.grownBy wr' none)
    (hA : Appended wr' w.heap.size 5 1 v (n + m) (l.map V8 ++ xs) v' w') (hm : m = r.length) (hx : xs = r.map V8) : Mine w (l ++ r) v' w' := by
  subst hn hx hm
  obtain ⟨h1, h2⟩ := h
  obtain ⟨a1, a2, _⟩ := hA
  refine ⟨⟨a2.os.trans (hg.os.trans h1.os), a2.tape.trans (hg.tape.trans h1.tape), a2.output.trans (hg.output.trans h1.output), Nat.le_trans h1.size (Nat.le_trans hg.size a2.size), fun k hk _ => ?_⟩, by simpa using a1⟩
  have hk1 := Nat.lt_of_lt_of_le hk h1.size
  rw [a2.block k (Nat.lt_of_lt_of_le hk1 hg.size) (fun e => by have := (h2.lt k e.symm).1; omega), hg.block k hk1 (by simp)]
  exact h1.block k hk (by simp)
theorem Mine.below {w wr : World} {l : List UInt8} {v : Value} (h : Mine w l v wr) : Below w.heap.size w wr :=
  ⟨h.1.os, h.1.tape, h.1.output, h.1.size, fun k hk => h.1.block k hk (by simp)⟩
theorem Mine.two (w : World) (x y : UInt8) : Mine w [x, y] (.slice (some ⟨w.heap.size, 0, none⟩) 2 2) (w.alloc (.cells #[V8 x, V8 y] 5)) :=
  ⟨grownBy_alloc _ _, by simp, .inr ⟨w.heap.size, 2, #[V8 x, V8 y], (0, 0), rfl, Nat.le_refl _, heap_alloc_new w _, rfl, Nat.le_refl _, by simp [maxLen], .inl (Nat.le_refl _), rfl⟩⟩
theorem news_four (w : World) (a b c d : Value) (e : TypeId) : ∀ j u, [a, b, c, d][j]? = some u → (w.alloc (.cells #[a, b, c, d] e)).cell? ((⟨w.heap.size, 0, none⟩ : Addr).add j) = some u := by
  intro j u hu
  match j, hu with
  | 0, hu => simp at hu; subst hu; simp [Addr.add]
  | 1, hu => simp at hu; subst hu; simp [Addr.add]
  | 2, hu => simp at hu; subst hu; simp [Addr.add]
  | 3, hu => simp at hu; subst hu; simp [Addr.add]
  | j + 4, hu => simp at hu
theorem four_oneCell {a b c d : Value} (ha : a.oneCell' = true) (hb : b.oneCell' = true) (hc : c.oneCell' = true) (hd : d.oneCell' = true) : ∀ u ∈ [a, b, c, d], u.oneCell' = true := by
  intro u hu; simp at hu; rcases hu with rfl | rfl | rfl | rfl <;> assumption
theorem parts_snoc (ps : List (List UInt8)) (k : Nat) (hk : k < ps.length) : Sha.parts (ps.take (k + 1)) = Sha.parts (ps.take k) ++ Sha.be32 (ps.getD k []).length ++ ps.getD k [] := by
  rw [List.take_succ_eq_append_getElem hk, Sha.parts, List.flatMap_append]
  simp [Sha.parts, hk]
theorem parts_len (ps : List (List UInt8)) (hn : ps.length ≤ 2) (hl : ∀ p ∈ ps, p.length ≤ 300) (k : Nat) : (Sha.parts (ps.take k)).length ≤ 608 := by
  match ps, hn, hl with
  | [], _, _ => simp [Sha.parts]
  | [a], _, hl =>
    have h1 := hl a (by simp)
    match k with
    | 0 => simp [Sha.parts]
    | k + 1 => simp [Sha.parts, Sha.be32]; omega
  | [a, b], _, hl =>
    have h1 := hl a (by simp)
    have h2 := hl b (by simp)
    match k with
    | 0 => simp [Sha.parts]
    | 1 => simp [Sha.parts, Sha.be32]; omega
    | k + 2 => simp [Sha.parts, Sha.be32]; omega
  | _ :: _ :: _ :: _, hn, _ => simp at hn
theorem be32_cells (n : Nat) (hn : n ≤ 300) : [Value.int .u8 ((n : Int) / (16777216 : Int)), Value.int .u8 ((n : Int) / (65536 : Int)), Value.int .u8 ((n : Int) / (256 : Int)), Value.int .u8 ((n : Int) % (256 : Int))] = (Sha.be32 n).map V8 := by
  simp [Sha.be32, V8, Nat.shiftRight_eq_div_pow]
  omega

set_option maxRecDepth 100000 in
set_option maxHeartbeats 4000000 in
theorem join_any (tag : UInt8) (ps : List (List UInt8)) (hn : ps.length ≤ 2) (hl : ∀ p ∈ ps, p.length ≤ 300) (v : Value) (w : World) (hv : Strs w v ps) :
    Calls Tryd.prog 56 #[.int .u8 tag.toNat, v] w fun e w' => e = .returned (.tuple #[.string (bs (Sha.join tag ps)), .int .i64 0]) ∧ Below w.heap.size w w' := by
  obtain ⟨i0, hi, hz0, hz1, hz2⟩ := info_parts info5
  have Hi := Lib.hid hi; clear hi
  have Hz0 := Lib.hid hz0; clear hz0
  have Hz1 := Lib.hid hz1; clear hz1
  have Hz2 := Lib.hid hz2; clear hz2
  obtain ⟨av, cv, rfl⟩ := hv.shape
  go_enter Tryd.func56, Tryd.ntmps56
  go_wp2_with fail
  have hM := Mine.two w tag (UInt8.ofNat ps.length)
  have hM : Mine w [tag, UInt8.ofNat ps.length] (.slice (some ⟨w.heap.size, 0, none⟩) 2 2) (w.alloc (.cells #[.int .u8 (tag.toNat : Int), .int .u8 (ps.length : Int)] 5)) := by
    have e : ((UInt8.ofNat ps.length).toNat : Int) = (ps.length : Int) := by simp; omega
    simpa only [V8, e] using hM
  go_loopw [6, 20] (fun v i wr => ∃ k : Nat, k ≤ ps.length ∧ i = .int .i64 k ∧ Mine w (tag :: UInt8.ofNat ps.length :: Sha.parts (ps.take k)) v wr) (fun _ i _ => ps.length - (intOf i).toNat)
  case atStart => exact ⟨0, by omega, rfl, by simpa [Sha.parts] using hM⟩
  case round =>
    obtain ⟨k, hk, rfl, hR⟩ := hrel
    have hm := parts_len ps hn hl k
    generalize hq : (tag :: UInt8.ofNat ps.length :: Sha.parts (ps.take k)) = q at hR
    have hql : q.length ≤ 610 := by rw [← hq]; simp; omega
    have Hq := Lib.hid hq; clear hq
    by_cases hlt : k < ps.length
    · obtain ⟨g, o, rfl, hg, hc⟩ := hv.cell k hlt
      have hc2 := (hR.below.cell (p := ⟨g, o + k, none⟩) hg).trans hc
      have hs := hR.1.size
      have hp : (ps.getD k []).length ≤ 300 := by
        rw [List.getD_eq_getElem?_getD, List.getElem?_eq_getElem hlt]; exact hl _ (List.getElem_mem hlt)
      have hsn := parts_snoc ps k hlt
      generalize ps.getD k [] = p at hc hc2 hp hsn
      have hps : (bs p).size = p.length := by simp [ByteArray.size]
      have Hsn := Lib.hid hsn; clear hsn hm
      have hO := hR.2
      go_wp2_with (first | ((with_reducible refine at_app (.tmp 27) (.tmp 39) ?_); refine wpList_app rfl (.tmp 27) (.tmp 39) 98 rfl w.heap.size 5 i0 _ 1 1 Tryd.underlying98 Hi.out Hz0.out Hz1.out Hz2.out rfl _ _ _ rfl (hO.alloc _) ⟨wr.heap.size, 0, none⟩ 4 4 [_, _, _, _] rfl rfl (news_four _ _ _ _ _ _) (four_oneCell rfl rfl rfl rfl) ?_ ?_ ?_ ?_; (unfold maxLen; omega); omega; (simp; omega); intro v3 w3 hA; have hR3 := hR.more (r := Sha.be32 p.length) rfl (grownBy_alloc _ _) hA rfl (be32_cells _ hp); have hs3 := hR3.1.size; have hO3 := hR3.2; clear hA hO) | ((with_reducible refine at_app (.tmp 41) (.tmp 42) ?_); refine wpList_apps rfl (.tmp 41) (.tmp 42) 98 9 rfl w.heap.size 5 i0 Tryd.underlying98 Tryd.underlying9 Hi.out Hz0.out Hz1.out Hz2.out _ _ _ rfl hO3 (bs p) rfl ?_ ?_ ?_; (rw [hps]; simp [Sha.be32]; omega); omega; intro v4 w4 hA; rw [hps] at hA; have hR4 := hR3.more rfl (grownBy_refl _) hA rfl (by simp)))
      go_roundw
      case rel => exact ⟨k + 1, by omega, by go_num, by rw [Hsn.out]; rw [← Hq.out] at hR4; simpa using hR4⟩
      case measure => simp [intOf]; omega
    · obtain rfl : k = ps.length := by omega
      rw [List.take_length] at Hq
      obtain rfl : Sha.join tag ps = q := Hq.out
      go_wp2_with ((with_reducible refine at_conv 98 9 (.tmp 45) ?_); refine wpList_toStr rfl 98 9 (.tmp 45) rfl _ rfl (bs (Sha.join tag ps)) (run_toStr_own _ _ _ _ Tryd.underlying98 Tryd.underlying5 Tryd.underlying9 w.heap.size _ _ _ hR.2) ?_)
      go_ret2
      exact ⟨rfl, hR.below⟩
set_option maxRecDepth 100000 in
set_option maxHeartbeats 4000000 in
theorem joinR_any (tag : UInt8) (ps : List (List UInt8)) (hn : ps.length ≤ 2) (hl : ∀ p ∈ ps, p.length ≤ 300) (v : Value) (w : World) (hv : Strs w v ps) :
    Calls Tryd.prog 67 #[.int .u8 tag.toNat, v] w fun e w' => e = .returned (.tuple #[.string (bs (Sha.join tag ps)), .int .i64 0]) ∧ Below w.heap.size w w' := by
  obtain ⟨i0, hi, hz0, hz1, hz2⟩ := info_parts info5
  have Hi := Lib.hid hi; clear hi
  have Hz0 := Lib.hid hz0; clear hz0
  have Hz1 := Lib.hid hz1; clear hz1
  have Hz2 := Lib.hid hz2; clear hz2
  obtain ⟨av, cv, rfl⟩ := hv.shape
  go_enter Tryd.func67, Tryd.ntmps67
  go_wp2_with fail
  have hM := Mine.two w tag (UInt8.ofNat ps.length)
  have hM : Mine w [tag, UInt8.ofNat ps.length] (.slice (some ⟨w.heap.size, 0, none⟩) 2 2) (w.alloc (.cells #[.int .u8 (tag.toNat : Int), .int .u8 (ps.length : Int)] 5)) := by
    have e : ((UInt8.ofNat ps.length).toNat : Int) = (ps.length : Int) := by simp; omega
    simpa only [V8, e] using hM
  go_loopw [6, 7] (fun v i wr => ∃ k : Nat, k ≤ ps.length ∧ i = .int .i64 k ∧ Mine w (tag :: UInt8.ofNat ps.length :: Sha.parts (ps.take k)) v wr) (fun _ i _ => ps.length - (intOf i).toNat)
  case atStart => exact ⟨0, by omega, rfl, by simpa [Sha.parts] using hM⟩
  case round =>
    obtain ⟨k, hk, rfl, hR⟩ := hrel
    have hm := parts_len ps hn hl k
    generalize hq : (tag :: UInt8.ofNat ps.length :: Sha.parts (ps.take k)) = q at hR
    have hql : q.length ≤ 610 := by rw [← hq]; simp; omega
    have Hq := Lib.hid hq; clear hq
    by_cases hlt : k < ps.length
    · obtain ⟨g, o, rfl, hg, hc⟩ := hv.cell k hlt
      have hc2 := (hR.below.cell (p := ⟨g, o + k, none⟩) hg).trans hc
      have hs := hR.1.size
      have hp : (ps.getD k []).length ≤ 300 := by
        rw [List.getD_eq_getElem?_getD, List.getElem?_eq_getElem hlt]; exact hl _ (List.getElem_mem hlt)
      have hsn := parts_snoc ps k hlt
      generalize ps.getD k [] = p at hc hc2 hp hsn
      have hps : (bs p).size = p.length := by simp [ByteArray.size]
      have Hsn := Lib.hid hsn; clear hsn hm
      have hO := hR.2
      go_wp2_with (first | ((with_reducible refine at_app (.tmp 28) (.tmp 40) ?_); refine wpList_app rfl (.tmp 28) (.tmp 40) 98 rfl w.heap.size 5 i0 _ 1 1 Tryd.underlying98 Hi.out Hz0.out Hz1.out Hz2.out rfl _ _ _ rfl (hO.alloc _) ⟨wr.heap.size, 0, none⟩ 4 4 [_, _, _, _] rfl rfl (news_four _ _ _ _ _ _) (four_oneCell rfl rfl rfl rfl) ?_ ?_ ?_ ?_; (unfold maxLen; omega); omega; (simp; omega); intro v3 w3 hA; have hR3 := hR.more (r := Sha.be32 p.length) rfl (grownBy_alloc _ _) hA rfl (be32_cells _ hp); have hs3 := hR3.1.size; have hc3 := (hR3.below.cell (p := ⟨g, o + k, none⟩) hg).trans hc; have hO3 := hR3.2; clear hA hO) | ((with_reducible refine at_app (.tmp 42) (.tmp 46) ?_); refine wpList_apps rfl (.tmp 42) (.tmp 46) 98 9 rfl w.heap.size 5 i0 Tryd.underlying98 Tryd.underlying9 Hi.out Hz0.out Hz1.out Hz2.out _ _ _ rfl hO3 (bs p) rfl ?_ ?_ ?_; (rw [hps]; simp [Sha.be32]; omega); omega; intro v4 w4 hA; rw [hps] at hA; have hR4 := hR3.more rfl (grownBy_refl _) hA rfl (by simp)))
      go_roundw
      case rel => exact ⟨k + 1, by omega, by go_num, by rw [Hsn.out]; rw [← Hq.out] at hR4; simpa using hR4⟩
      case measure => simp [intOf]; omega
    · obtain rfl : k = ps.length := by omega
      rw [List.take_length] at Hq
      obtain rfl : Sha.join tag ps = q := Hq.out
      go_wp2_with ((with_reducible refine at_conv 98 9 (.tmp 48) ?_); refine wpList_toStr rfl 98 9 (.tmp 48) rfl _ rfl (bs (Sha.join tag ps)) (run_toStr_own _ _ _ _ Tryd.underlying98 Tryd.underlying5 Tryd.underlying9 w.heap.size _ _ _ hR.2) ?_)
      go_ret2
      exact ⟨rfl, hR.below⟩

theorem join_len (tag : UInt8) (ps : List (List UInt8)) (hn : ps.length ≤ 2) (hl : ∀ p ∈ ps, p.length ≤ 300) : (Sha.join tag ps).length ≤ 610 := by
  have := parts_len ps hn hl ps.length
  rw [List.take_length] at this
  simp [Sha.join]; omega
/-- The table of constants, somewhere in memory. -/
def KT (w : World) : Prop := 0 < w.heap.size ∧ KTab w
theorem KT.below {w w' : World} {B : Nat} (h : KT w) (hB : Below B w w') (hb : w.heap.size ≤ B) : KT w' :=
  ⟨Nat.lt_of_lt_of_le h.1 hB.size, fun i hi => (hB.cell (p := ⟨0, i, none⟩) (Nat.lt_of_lt_of_le h.1 hb)).trans (h.2 i hi)⟩
theorem KT.alloc {w : World} (h : KT w) (o : Obj) : KT (w.alloc o) := h.below (B := w.heap.size) ((Below.refl _ _).alloc (Nat.le_refl _) o) (Nat.le_refl _)
theorem results_row_tmp {P : Program} {fn : Func} {p u : Tmp} {ty : TypeId} (h : fn.results = #[.cell p ty, .tmp u]) (tmps : Array Value) (w : World) (g : Nat) (t : TypeId) (cs : Array Value) (fr : Nat × Nat) (d : TypeDesc) (z : Value)
    (hp : tmps.getD p undef = .pointer (some ⟨g, 0, none⟩)) (hz : tmps.getD u undef = z) (hg : w.heap[g]? = some (.cells cs t fr))
    (hu : P.underlying ty = some d) (hd : (match d with | .struct _ | .array _ _ => true | _ => false) = true) (hi : (P.info? ty).map (·.size) = some cs.size) :
    (results fn tmps).run P w = .ok (.tuple #[.agg cs, z]) w := by
  rw [results_cell_tmp h, hp, hz]
  simp [asAddr, run_loadVar_row w g t ty cs fr d hg hu hd hi]

set_option maxRecDepth 100000 in
set_option maxHeartbeats 4000000 in
theorem tagged_any (tag : UInt8) (ps : List (List UInt8)) (hn : ps.length ≤ 2) (hl : ∀ p ∈ ps, p.length ≤ 300) (v : Value) (w : World) (hv : Strs w v ps) (hK : KT w) :
    Calls Tryd.prog 44 #[.int .u8 tag.toNat, v] w fun e w' => e = .returned (.tuple #[Dv (Sha.tagged tag ps), .int .i64 0]) ∧ Below w.heap.size w w' := by
  have hjl := join_len tag ps hn hl
  have Hk := Lib.hid hK; clear hK
  have hd : (Sha.tagged tag ps).length = 32 := Sha.sum_length _
  have hde : Sha.sum (Sha.join tag ps) = Sha.tagged tag ps := rfl
  generalize Sha.tagged tag ps = d at hd hde
  have Hde := Lib.hid hde; clear hde
  have Hd := Lib.hid hd; clear hd
  go_enter Tryd.func44, Tryd.ntmps44
  go_wp2_with fail
  have hA := Arr.new w 24 (List.replicate 32 (V8 0))
  have hB : Below w.heap.size w (w.alloc (.cells (List.replicate 32 (V8 0)).toArray 24)) := (Below.refl _ _).alloc (Nat.le_refl _) _
  refine (join_any tag ps hn hl v _ ?_).mono ?_
  · exact hv.below hB
  rintro e w1 ⟨rfl, hb1⟩
  have hA1 := hA.below hb1 hA.lt
  have hB1 := hB.trans (hb1.mono hB.size)
  clear hA hB hb1
  go_wp2_with fail
  refine (sum_any (Sha.join tag ps) (by omega) w1 (Hk.out.below hB1 (Nat.le_refl _)).1 (Hk.out.below hB1 (Nat.le_refl _)).2).mono ?_
  rintro e w2 ⟨rfl, hb2⟩
  rw [Hde.out]
  have hA2 := hA1.below hb2 hA1.lt
  have hB2 := hB1.trans (hb2.mono hB1.size)
  clear hA1 hB1 hb2
  go_wp2_with ((with_reducible refine at_st 24 (.tmp 4) (.tmp 19) ?_); refine wpList_store_row rfl 24 (.tmp 4) (.tmp 19) rfl w.heap.size (d.map V8).toArray rfl rfl 24 (List.replicate 32 (V8 0)).toArray hA2 (info24 d Hd.out) (by rw [List.size_toArray, List.size_toArray, List.length_map, Hd.out]; rfl) (v8_one _) ?_)
  exact bodyPost_ret (v := .tuple #[Dv d, .int .i64 0]) (results_row_tmp rfl _ _ w.heap.size 24 _ _ _ _ rfl rfl (setRow_heap _ _ _ _ _ _ hA2) Tryd.underlying24 rfl (info24 d Hd.out)) rfl ⟨rfl, below_setRow hB2 (Nat.le_refl _) _⟩
set_option maxRecDepth 100000 in
set_option maxHeartbeats 4000000 in
theorem taggedR_any (tag : UInt8) (ps : List (List UInt8)) (hn : ps.length ≤ 2) (hl : ∀ p ∈ ps, p.length ≤ 300) (v : Value) (w : World) (hv : Strs w v ps) :
    Calls Tryd.prog 46 #[.int .u8 tag.toNat, v] w fun e w' => e = .returned (Dv (Sha.tagged tag ps)) ∧ Below w.heap.size w w' := by
  have hjl := join_len tag ps hn hl
  have hd : (Sha.tagged tag ps).length = 32 := Sha.sum_length _
  have hde : Sha.sum (Sha.join tag ps) = Sha.tagged tag ps := rfl
  generalize Sha.tagged tag ps = d at hd hde
  have Hde := Lib.hid hde; clear hde
  have Hd := Lib.hid hd; clear hd
  go_enter Tryd.func46, Tryd.ntmps46
  go_wp2_with fail
  have hA := Arr.new w 23 (List.replicate 32 (V8 0))
  have hB : Below w.heap.size w (w.alloc (.cells (List.replicate 32 (V8 0)).toArray 23)) := (Below.refl _ _).alloc (Nat.le_refl _) _
  refine (joinR_any tag ps hn hl v _ ?_).mono ?_
  · exact hv.below hB
  rintro e w1 ⟨rfl, hb1⟩
  have hA1 := hA.below hb1 hA.lt
  have hB1 := hB.trans (hb1.mono hB.size)
  clear hA hB hb1
  go_wp2_with fail
  refine (sumR_any (Sha.join tag ps) (by omega) w1).mono ?_
  rintro e w2 ⟨rfl, hb2⟩
  rw [Hde.out]
  have hA2 := hA1.below hb2 hA1.lt
  have hB2 := hB1.trans (hb2.mono hB1.size)
  clear hA1 hB1 hb2
  go_wp2_with ((with_reducible refine at_st 23 (.tmp 4) (.tmp 14) ?_); refine wpList_store_row rfl 23 (.tmp 4) (.tmp 14) rfl w.heap.size (d.map V8).toArray rfl rfl 23 (List.replicate 32 (V8 0)).toArray hA2 (infoR d Hd.out) (by rw [List.size_toArray, List.size_toArray, List.length_map, Hd.out]; rfl) (v8_one _) ?_)
  exact bodyPost_ret (v := Dv d) (results_cell_row rfl _ _ w.heap.size 23 _ _ _ rfl (setRow_heap _ _ _ _ _ _ hA2) Tryd.underlying23 rfl (infoR d Hd.out)) rfl ⟨rfl, below_setRow hB2 (Nat.le_refl _) _⟩
end Go.Proofs.YteehpfccegnjjaaDoor
