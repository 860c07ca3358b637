/-
  Slices of digests; the roots of a Merkle tree; the contracts of logtree.root, Root and of the reference's Root.
-/
import Derived.Test.YteehpfccegnjjaaDoorLeft
namespace Go.Proofs.YteehpfccegnjjaaDoor
open Go Go.RowKit
/-- The root of a list that is not empty. -/
def mroot (ds : List (List UInt8)) : List UInt8 :=
  if 2 ≤ ds.length then Sha.node (mroot (ds.take (lp ds.length))) (mroot (ds.drop (lp ds.length))) else ds.headD []
termination_by ds.length
decreasing_by
  · have := lp_lt ds.length ‹_›; simp; omega
  · have := lp_pos ds.length; simp; omega
def mtree (ds : List (List UInt8)) : List UInt8 := if ds = [] then Sha.empty else mroot ds

/-- The slice v holds these digests. -/
structure Digs (w : World) (v : Value) (ds : List (List UInt8)) : Prop where
  all : ∀ d ∈ ds, d.length = 32
  lies : (ds = [] ∧ ∃ a cap, v = .slice a 0 cap) ∨ ∃ g o cap, v = .slice (some ⟨g, o, none⟩) ds.length cap ∧ ds.length ≤ cap ∧ g < w.heap.size ∧ ∀ j, j < ds.length → w.rangeAt g (o + j * 32) ((ds.getD j []).map V8)
theorem Digs.shape {w : World} {v : Value} {ds : List (List UInt8)} (h : Digs w v ds) : ∃ a cap, v = .slice a ds.length cap := by
  rcases h.lies with ⟨rfl, a, cap, rfl⟩ | ⟨g, o, cap, rfl, _⟩ <;> exact ⟨_, _, rfl⟩
theorem Digs.pos {w : World} {v : Value} {ds : List (List UInt8)} (h : Digs w v ds) (h0 : 0 < ds.length) :
    ∃ g o cap, v = .slice (some ⟨g, o, none⟩) ds.length cap ∧ ds.length ≤ cap ∧ g < w.heap.size ∧ ∀ j, j < ds.length → w.rangeAt g (o + j * 32) ((ds.getD j []).map V8) := by
  rcases h.lies with ⟨rfl, _⟩ | h
  · simp at h0
  · exact h
theorem Digs.below {w w' : World} {v : Value} {ds : List (List UInt8)} (h : Digs w v ds) {B : Nat} (hB : Below B w w') (hb : w.heap.size ≤ B) : Digs w' v ds := by
  refine ⟨h.all, ?_⟩
  rcases h.lies with h | ⟨g, o, cap, rfl, hc, hg, hr⟩
  · exact .inl h
  · exact .inr ⟨g, o, cap, rfl, hc, Nat.lt_of_lt_of_le hg hB.size, fun j hj => range_below (hr j hj) hB (by omega)⟩
theorem mroot_length (ds : List (List UInt8)) (h : ∀ d ∈ ds, d.length = 32) (h0 : ds ≠ []) : (mroot ds).length = 32 := by
  rw [mroot]
  split
  · exact Sha.node_length _ _
  · cases ds with
    | nil => exact absurd rfl h0
    | cons d _ => exact h d (by simp)
theorem mtree_length (ds : List (List UInt8)) (h : ∀ d ∈ ds, d.length = 32) : (mtree ds).length = 32 := by
  unfold mtree
  split
  · exact Sha.empty_length
  · exact mroot_length ds h ‹_›
theorem dv_la (d : List UInt8) : Dv d = .agg (d.map V8).toArray := rfl
theorem node_la (a b : List UInt8) (ha : a.length = 32) (hb : b.length = 32) (va vb : Value) (hA : Dv a = va) (hB : Dv b = vb) (w : World) (hK : KT w) :
    Calls Tryd.prog 17 #[va, vb] w fun e w' => e = .returned (Dv (Sha.node a b)) ∧ Below w.heap.size w w' := by rw [← hA, ← hB]; exact node_any a b ha hb w hK
theorem Digs.take {w : World} {g o cap : Nat} {ds : List (List UInt8)} (h : Digs w (.slice (some ⟨g, o, none⟩) ds.length cap) ds) (k : Nat) (hk : k ≤ ds.length) : Digs w (.slice (some ⟨g, o, none⟩) k cap) (ds.take k) := by
  refine ⟨fun d hd => h.all d (List.mem_of_mem_take hd), ?_⟩
  rcases h.lies with ⟨rfl, _⟩ | ⟨g', o', cap', h1, hc, hg, hr⟩
  · simp at hk
    subst hk
    exact .inl ⟨by simp, _, _, rfl⟩
  · simp only [Value.slice.injEq, Option.some.injEq, Addr.mk.injEq] at h1
    obtain ⟨⟨rfl, rfl, -⟩, -, rfl⟩ := h1
    refine .inr ⟨g, o, cap, by rw [List.length_take, Nat.min_eq_left hk], by simp; omega, hg, fun j hj => ?_⟩
    simp only [List.length_take] at hj
    have := hr j (by omega)
    rwa [show (ds.take k).getD j [] = ds.getD j [] by simp [List.getD_eq_getElem?_getD, show j < k by omega]]
theorem Digs.drop {w : World} {g o cap : Nat} {ds : List (List UInt8)} (h : Digs w (.slice (some ⟨g, o, none⟩) ds.length cap) ds) (k : Nat) (hk : k ≤ ds.length) : Digs w (.slice (some ⟨g, o + k * 32, none⟩) (ds.length - k) (cap - k)) (ds.drop k) := by
  refine ⟨fun d hd => h.all d (List.mem_of_mem_drop hd), ?_⟩
  rcases h.lies with ⟨rfl, _⟩ | ⟨g', o', cap', h1, hc, hg, hr⟩
  · simp at hk
    subst hk
    exact .inl ⟨by simp, _, _, rfl⟩
  · simp only [Value.slice.injEq, Option.some.injEq, Addr.mk.injEq] at h1
    obtain ⟨⟨rfl, rfl, -⟩, -, rfl⟩ := h1
    refine .inr ⟨g, o + k * 32, cap - k, by rw [List.length_drop], by simp; omega, hg, fun j hj => ?_⟩
    simp only [List.length_drop] at hj
    have := hr (k + j) (by omega)
    rwa [show (ds.drop k).getD j [] = ds.getD (k + j) [] by simp [List.getD_eq_getElem?_getD], show o + k * 32 + j * 32 = o + (k + j) * 32 by omega]

set_option maxRecDepth 100000 in
set_option maxHeartbeats 4000000 in
theorem root_any (N : Nat) : ∀ (ds : List (List UInt8)) (v : Value) (w : World), ds.length ≤ N → 1 ≤ ds.length → ds.length ≤ 1048576 → Digs w v ds → KT w →
    Calls Tryd.prog 45 #[v] w fun e w' => e = .returned (Dv (mroot ds)) ∧ Below w.heap.size w w' := by
  induction N with
  | zero => intro ds v w h1 h2; omega
  | succ N ih =>
    intro ds v w hN h1 hmax hV hK
    have Hk := Lib.hid hK; clear hK
    obtain ⟨g, o, cap, rfl, hcap, hg, hr⟩ := hV.pos (by omega)
    by_cases h2 : ds.length = 1
    · have hm : mroot ds = ds.getD 0 [] := by
        rw [mroot, if_neg (by omega)]
        match ds, h2 with
        | [d], _ => rfl
      have hd := hV.all (ds.getD 0 []) (by match ds, h2 with | [d], _ => simp)
      have hr0 := hr 0 (by omega)
      rw [hm, dv_la]
      generalize ds.getD 0 [] = d at *
      generalize hld : d.map V8 = ld at *
      have hdl : ld.length = 32 := by rw [← hld]; simpa using hd
      have hdo : ∀ v ∈ ld, v.oneCell' = true := by rw [← hld]; intro v hv; obtain ⟨x, _, rfl⟩ := List.mem_map.1 hv; rfl
      rw [h2]
      clear hld hr hV hm hd ih h1
      have hA := Arr.new w 24 (List.replicate 32 (V8 0))
      have hB : Below w.heap.size w (w.alloc (.cells (List.replicate 32 (V8 0)).toArray 24)) := (Below.refl _ _).alloc (Nat.le_refl _) _
      have hr1 := range_below hr0 hB hg
      have hi : (Tryd.prog.info? 24).map (·.size) = some ld.toArray.size := by rw [List.size_toArray, hdl]; kernel_rfl
      have hi' : (Tryd.prog.info? 24).map (·.size) = some ld.length := by rw [hdl]; kernel_rfl
      have hu := Tryd.underlying24
      have HR := Lib.hid hr1; have HI := Lib.hid hi; have HI2 := Lib.hid hi'; have HU := Lib.hid hu; have HAA := Lib.hid hA; have HDO := Lib.hid hdo
      have hz : (List.replicate 32 (V8 0)).toArray.size = ld.toArray.size := by rw [List.size_toArray, List.size_toArray, hdl]; rfl
      have HZ := Lib.hid hz
      clear hr0 hr1 hi hi' hu hA hdo hdl hz
      go_enter Tryd.func45, Tryd.ntmps45
      go_wp2_with (first | ((with_reducible refine at_ld 24 (.tmp 8) ?_); refine wpList_load_mid rfl 24 (.tmp 8) rfl g o rfl ld _ HR.out HU.out rfl HI2.out ?_) | ((with_reducible refine at_st 24 (.tmp 2) (.tmp 9) ?_); refine wpList_store_row rfl 24 (.tmp 2) (.tmp 9) rfl w.heap.size ld.toArray rfl rfl 24 (List.replicate 32 (V8 0)).toArray HAA.out HI.out HZ.out (all_oneCell_toArray HDO.out) ?_))
      exact bodyPost_ret (v := .agg ld.toArray) (results_cell_row rfl _ _ w.heap.size 24 _ _ _ rfl (setRow_heap _ _ _ _ _ _ HAA.out) HU.out rfl HI.out) rfl ⟨rfl, below_setRow hB (Nat.le_refl _) _⟩
    · have h3 : 2 ≤ ds.length := by omega
      have hm : mroot ds = Sha.node (mroot (ds.take (lp ds.length))) (mroot (ds.drop (lp ds.length))) := by
        rw [mroot, if_pos h3]
      have hp1 := lp_pos ds.length
      have hp2 := lp_lt ds.length h3
      have hT := hV.take (lp ds.length) (by omega)
      have hDr := hV.drop (lp ds.length) (by omega)
      have hl := left_any ds.length h3 hmax
      rw [hm]
      generalize lp ds.length = p at *
      generalize hta : ds.take p = da at *
      generalize hdb : ds.drop p = db at *
      have hda : da.length = p := by rw [← hta, List.length_take]; omega
      have hdb' : db.length = ds.length - p := by rw [← hdb, List.length_drop]
      have iha := fun w hV hK => ih da (.slice (some ⟨g, o, none⟩) p cap) w (by omega) (by omega) (by omega) hV hK
      have ihb := fun w hV hK => ih db (.slice (some ⟨g, o + p * 32, none⟩) (ds.length - p) (cap - p)) w (by omega) (by omega) (by omega) hV hK
      have hla := mroot_length da hT.all (by intro e; rw [e] at hda; simp at hda; omega)
      have hlb := mroot_length db hDr.all (by intro e; rw [e] at hdb'; simp at hdb'; omega)
      generalize mroot da = ra at *
      generalize mroot db = rb at *
      have hld := Sha.node_length ra rb
      have hn := node_la ra rb hla hlb (Dv ra) (Dv rb) rfl rfl
      generalize Sha.node ra rb = d at *
      clear hm ih hr hta hdb hV
      have hpc : p ≤ cap := by omega
      have hpn : p ≤ ds.length := by omega
      have hne : ¬ cap = p := by omega
      generalize ds.length = n at *
      obtain ⟨ld, hD, -, hdl, hdo⟩ := v8_list d hld
      have hA := Arr.new w 24 (List.replicate 32 (V8 0))
      have hB : Below w.heap.size w (w.alloc (.cells (List.replicate 32 (V8 0)).toArray 24)) := (Below.refl _ _).alloc (Nat.le_refl _) _
      have hi : (Tryd.prog.info? 24).map (·.size) = some ld.toArray.size := by rw [List.size_toArray, hdl]; kernel_rfl
      have hu := Tryd.underlying24
      have HI := Lib.hid hi; have HU := Lib.hid hu; have HAA := Lib.hid hA; have HDO := Lib.hid hdo; have HB := Lib.hid hB
      have hz : (List.replicate 32 (V8 0)).toArray.size = ld.toArray.size := by rw [List.size_toArray, List.size_toArray, hdl]; rfl
      have HZ := Lib.hid hz; have HD := Lib.hid hD
      clear hi hu hA hdo hz hD hdl hB
      go_enter Tryd.func45, Tryd.ntmps45
      go_wp2_with (go_at_call 66; refine (hl _).mono ?_; rintro e w1 ⟨rfl, rfl⟩)
      have hA := HAA.out
      have hB := HB.out
      change Code.wp _ _ _ _ (w.alloc (.cells (List.replicate 32 (V8 0)).toArray 24))
      have hs : (w.alloc (.cells (List.replicate 32 (V8 0)).toArray 24)).heap.size = w.heap.size + 1 := by simp
      generalize w.alloc (.cells (List.replicate 32 (V8 0)).toArray 24) = w0 at *
      refine wp_region_class 9 [] [0, 1, 2, 3, 4, 5, 6, 7, 8] (Below w0.heap.size w0) (Stable.below w0) (Below.refl _ _).drew (by kernel_rfl) (by kernel_rfl) ?_
      simp only [opsOf, List.getElem?_cons_succ, List.getElem?_cons_zero, List.drop_succ_cons, List.drop_zero]
      refine wpL_val ?v2 rfl (by rfl) (fun wq hq => ?y2) ?z2
      case y2 => go_simp; with_reducible rfl
      try simp only [Act.put, List.setIfInBounds_toArray, List.set_cons_zero, List.set_cons_succ]
      refine wpL_val ?v3 rfl (by rfl) (fun wq hq => ?y3) ?z3
      case y3 => go_simp; with_reducible rfl
      try simp only [Act.put, List.setIfInBounds_toArray, List.set_cons_zero, List.set_cons_succ]
      refine wpL_val ?v4 rfl (by rfl) (fun wq hq => ?y4) ?z4
      case y4 => go_simp; with_reducible rfl
      try simp only [Act.put, List.setIfInBounds_toArray, List.set_cons_zero, List.set_cons_succ]
      refine wpL_val ?v5 rfl (by rfl) (fun wq hq => ?y5) ?z5
      case y5 => go_simp; exact iha _ (hT.below (hB.trans (hq.mono (by omega))) (Nat.le_refl _)) (Hk.out.below (hB.trans (hq.mono (by omega))) (Nat.le_refl _))
      try simp only [Act.put, List.setIfInBounds_toArray, List.set_cons_zero, List.set_cons_succ]
      refine wpL_val ?v6 rfl (by rfl) (fun wq hq => ?y6) ?z6
      case y6 => go_simp; with_reducible rfl
      try simp only [Act.put, List.setIfInBounds_toArray, List.set_cons_zero, List.set_cons_succ]
      refine wpL_val ?v7 rfl (by rfl) (fun wq hq => ?y7) ?z7
      case y7 => go_simp; with_reducible rfl
      try simp only [Act.put, List.setIfInBounds_toArray, List.set_cons_zero, List.set_cons_succ]
      refine wpL_val ?v8 rfl (by rfl) (fun wq hq => ?y8) ?z8
      case y8 => go_simp; with_reducible rfl
      try simp only [Act.put, List.setIfInBounds_toArray, List.set_cons_zero, List.set_cons_succ]
      refine wpL_val ?v9 rfl (by rfl) (fun wq hq => ?y9) ?z9
      case y9 => go_simp; exact ihb _ (hDr.below (hB.trans (hq.mono (by omega))) (Nat.le_refl _)) (Hk.out.below (hB.trans (hq.mono (by omega))) (Nat.le_refl _))
      try simp only [Act.put, List.setIfInBounds_toArray, List.set_cons_zero, List.set_cons_succ]
      refine wpL_val ?v10 rfl (by rfl) (fun wq hq => ?y10) ?z10
      case y10 => go_simp; exact hn _ (Hk.out.below (hB.trans (hq.mono (by omega))) (Nat.le_refl _))
      try simp only [Act.put, List.setIfInBounds_toArray, List.set_cons_zero, List.set_cons_succ]
      refine wpL_nil ?_
      intro wt hwt
      have hA2 := hA.below hwt hA.lt
      rw [HD.out]
      go_wp2_with ((with_reducible refine at_st 24 (.tmp 2) (.tmp 21) ?_); refine wpList_store_row rfl 24 (.tmp 2) (.tmp 21) rfl w.heap.size ld.toArray rfl rfl 24 (List.replicate 32 (V8 0)).toArray hA2 HI.out HZ.out (all_oneCell_toArray HDO.out) ?_)
      exact bodyPost_ret (v := .agg ld.toArray) (results_cell_row rfl _ _ w.heap.size 24 _ _ _ rfl (setRow_heap _ _ _ _ _ _ hA2) HU.out rfl HI.out) rfl ⟨by rw [HD.out], below_setRow (hB.trans (hwt.mono (by omega))) (Nat.le_refl _) _⟩
theorem nodeR_la (a b : List UInt8) (ha : a.length = 32) (hb : b.length = 32) (va vb : Value) (hA : Dv a = va) (hB : Dv b = vb) (w : World) :
    Calls Tryd.prog 18 #[va, vb] w fun e w' => e = .returned (Dv (Sha.node a b)) ∧ Below w.heap.size w w' := by rw [← hA, ← hB]; exact nodeR_any a b ha hb w
set_option maxRecDepth 100000 in
set_option maxHeartbeats 4000000 in
theorem rootR_any (N : Nat) : ∀ (ds : List (List UInt8)) (v : Value) (w : World), ds.length ≤ N → 1 ≤ ds.length → ds.length ≤ 1048576 → Digs w v ds →
    Calls Tryd.prog 21 #[v] w fun e w' => e = .returned (Dv (mroot ds)) ∧ Below w.heap.size w w' := by
  induction N with
  | zero => intro ds v w h1 h2; omega
  | succ N ih =>
    intro ds v w hN h1 hmax hV
    obtain ⟨g, o, cap, rfl, hcap, hg, hr⟩ := hV.pos (by omega)
    by_cases h2 : ds.length = 1
    · have hm : mroot ds = ds.getD 0 [] := by
        rw [mroot, if_neg (by omega)]
        match ds, h2 with
        | [d], _ => rfl
      have hd := hV.all (ds.getD 0 []) (by match ds, h2 with | [d], _ => simp)
      have hr0 := hr 0 (by omega)
      rw [hm, dv_la]
      generalize ds.getD 0 [] = d at *
      generalize hld : d.map V8 = ld at *
      have hdl : ld.length = 32 := by rw [← hld]; simpa using hd
      have hdo : ∀ v ∈ ld, v.oneCell' = true := by rw [← hld]; intro v hv; obtain ⟨x, _, rfl⟩ := List.mem_map.1 hv; rfl
      rw [h2]
      clear hld hr hV hm hd ih h1
      have hA := Arr.new w 23 (List.replicate 32 (V8 0))
      have hB : Below w.heap.size w (w.alloc (.cells (List.replicate 32 (V8 0)).toArray 23)) := (Below.refl _ _).alloc (Nat.le_refl _) _
      have hr1 := range_below hr0 hB hg
      have hi : (Tryd.prog.info? 23).map (·.size) = some ld.toArray.size := by rw [List.size_toArray, hdl]; kernel_rfl
      have hi' : (Tryd.prog.info? 23).map (·.size) = some ld.length := by rw [hdl]; kernel_rfl
      have hu := Tryd.underlying23
      have HR := Lib.hid hr1; have HI := Lib.hid hi; have HI2 := Lib.hid hi'; have HU := Lib.hid hu; have HAA := Lib.hid hA; have HDO := Lib.hid hdo
      have hz : (List.replicate 32 (V8 0)).toArray.size = ld.toArray.size := by rw [List.size_toArray, List.size_toArray, hdl]; rfl
      have HZ := Lib.hid hz
      clear hr0 hr1 hi hi' hu hA hdo hdl hz
      go_enter Tryd.func21, Tryd.ntmps21
      go_wp2_with (first | ((with_reducible refine at_ld 23 (.tmp 12) ?_); refine wpList_load_mid rfl 23 (.tmp 12) rfl g o rfl ld _ HR.out HU.out rfl HI2.out ?_) | ((with_reducible refine at_st 23 (.tmp 2) (.tmp 13) ?_); refine wpList_store_row rfl 23 (.tmp 2) (.tmp 13) rfl w.heap.size ld.toArray rfl rfl 23 (List.replicate 32 (V8 0)).toArray HAA.out HI.out HZ.out (all_oneCell_toArray HDO.out) ?_))
      exact bodyPost_ret (v := .agg ld.toArray) (results_cell_row rfl _ _ w.heap.size 23 _ _ _ rfl (setRow_heap _ _ _ _ _ _ HAA.out) HU.out rfl HI.out) rfl ⟨rfl, below_setRow hB (Nat.le_refl _) _⟩
    · have h3 : 2 ≤ ds.length := by omega
      have hm : mroot ds = Sha.node (mroot (ds.take (lp ds.length))) (mroot (ds.drop (lp ds.length))) := by
        rw [mroot, if_pos h3]
      have hp1 := lp_pos ds.length
      have hp2 := lp_lt ds.length h3
      have hT := hV.take (lp ds.length) (by omega)
      have hDr := hV.drop (lp ds.length) (by omega)
      have hl := leftR_any ds.length h3 hmax
      rw [hm]
      generalize lp ds.length = p at *
      generalize hta : ds.take p = da at *
      generalize hdb : ds.drop p = db at *
      have hda : da.length = p := by rw [← hta, List.length_take]; omega
      have hdb' : db.length = ds.length - p := by rw [← hdb, List.length_drop]
      have iha := fun w hV => ih da (.slice (some ⟨g, o, none⟩) p cap) w (by omega) (by omega) (by omega) hV
      have ihb := fun w hV => ih db (.slice (some ⟨g, o + p * 32, none⟩) (ds.length - p) (cap - p)) w (by omega) (by omega) (by omega) hV
      have hla := mroot_length da hT.all (by intro e; rw [e] at hda; simp at hda; omega)
      have hlb := mroot_length db hDr.all (by intro e; rw [e] at hdb'; simp at hdb'; omega)
      generalize mroot da = ra at *
      generalize mroot db = rb at *
      have hld := Sha.node_length ra rb
      have hn := nodeR_la ra rb hla hlb (Dv ra) (Dv rb) rfl rfl
      generalize Sha.node ra rb = d at *
      clear hm ih hr hta hdb hV
      have hpc : p ≤ cap := by omega
      have hpn : p ≤ ds.length := by omega
      have hne : ¬ cap = p := by omega
      generalize ds.length = n at *
      obtain ⟨ld, hD, -, hdl, hdo⟩ := v8_list d hld
      have hA := Arr.new w 23 (List.replicate 32 (V8 0))
      have hB : Below w.heap.size w (w.alloc (.cells (List.replicate 32 (V8 0)).toArray 23)) := (Below.refl _ _).alloc (Nat.le_refl _) _
      have hi : (Tryd.prog.info? 23).map (·.size) = some ld.toArray.size := by rw [List.size_toArray, hdl]; kernel_rfl
      have hu := Tryd.underlying23
      have HI := Lib.hid hi; have HU := Lib.hid hu; have HAA := Lib.hid hA; have HDO := Lib.hid hdo; have HB := Lib.hid hB
      have hz : (List.replicate 32 (V8 0)).toArray.size = ld.toArray.size := by rw [List.size_toArray, List.size_toArray, hdl]; rfl
      have HZ := Lib.hid hz; have HD := Lib.hid hD
      clear hi hu hA hdo hz hD hdl hB
      go_enter Tryd.func21, Tryd.ntmps21
      go_wp2_with (go_at_call 49; refine (hl _).mono ?_; rintro e w1 ⟨rfl, rfl⟩)
      have hA := HAA.out
      have hB := HB.out
      change Code.wp _ _ _ _ (w.alloc (.cells (List.replicate 32 (V8 0)).toArray 23))
      have hs : (w.alloc (.cells (List.replicate 32 (V8 0)).toArray 23)).heap.size = w.heap.size + 1 := by simp
      generalize w.alloc (.cells (List.replicate 32 (V8 0)).toArray 23) = w0 at *
      refine wp_region_class 9 [] [0, 1, 2, 3, 4, 5, 6, 7, 8] (Below w0.heap.size w0) (Stable.below w0) (Below.refl _ _).drew (by kernel_rfl) (by kernel_rfl) ?_
      simp only [opsOf, List.getElem?_cons_succ, List.getElem?_cons_zero, List.drop_succ_cons, List.drop_zero]
      refine wpL_val ?v13 rfl (by rfl) (fun wq hq => ?y13) ?z13
      case y13 => go_simp; with_reducible rfl
      try simp only [Act.put, List.setIfInBounds_toArray, List.set_cons_zero, List.set_cons_succ]
      refine wpL_val ?v14 rfl (by rfl) (fun wq hq => ?y14) ?z14
      case y14 => go_simp; with_reducible rfl
      try simp only [Act.put, List.setIfInBounds_toArray, List.set_cons_zero, List.set_cons_succ]
      refine wpL_val ?v15 rfl (by rfl) (fun wq hq => ?y15) ?z15
      case y15 => go_simp; with_reducible rfl
      try simp only [Act.put, List.setIfInBounds_toArray, List.set_cons_zero, List.set_cons_succ]
      refine wpL_val ?v16 rfl (by rfl) (fun wq hq => ?y16) ?z16
      case y16 => go_simp; exact iha _ (hT.below (hB.trans (hq.mono (by omega))) (Nat.le_refl _))
      try simp only [Act.put, List.setIfInBounds_toArray, List.set_cons_zero, List.set_cons_succ]
      refine wpL_val ?v17 rfl (by rfl) (fun wq hq => ?y17) ?z17
      case y17 => go_simp; with_reducible rfl
      try simp only [Act.put, List.setIfInBounds_toArray, List.set_cons_zero, List.set_cons_succ]
      refine wpL_val ?v18 rfl (by rfl) (fun wq hq => ?y18) ?z18
      case y18 => go_simp; with_reducible rfl
      try simp only [Act.put, List.setIfInBounds_toArray, List.set_cons_zero, List.set_cons_succ]
      refine wpL_val ?v19 rfl (by rfl) (fun wq hq => ?y19) ?z19
      case y19 => go_simp; with_reducible rfl
      try simp only [Act.put, List.setIfInBounds_toArray, List.set_cons_zero, List.set_cons_succ]
      refine wpL_val ?v20 rfl (by rfl) (fun wq hq => ?y20) ?z20
      case y20 => go_simp; exact ihb _ (hDr.below (hB.trans (hq.mono (by omega))) (Nat.le_refl _))
      try simp only [Act.put, List.setIfInBounds_toArray, List.set_cons_zero, List.set_cons_succ]
      refine wpL_val ?v21 rfl (by rfl) (fun wq hq => ?y21) ?z21
      case y21 => go_simp; exact hn _
      try simp only [Act.put, List.setIfInBounds_toArray, List.set_cons_zero, List.set_cons_succ]
      refine wpL_nil ?_
      intro wt hwt
      have hA2 := hA.below hwt hA.lt
      rw [HD.out]
      go_wp2_with ((with_reducible refine at_st 23 (.tmp 2) (.tmp 25) ?_); refine wpList_store_row rfl 23 (.tmp 2) (.tmp 25) rfl w.heap.size ld.toArray rfl rfl 23 (List.replicate 32 (V8 0)).toArray hA2 HI.out HZ.out (all_oneCell_toArray HDO.out) ?_)
      exact bodyPost_ret (v := .agg ld.toArray) (results_cell_row rfl _ _ w.heap.size 23 _ _ _ rfl (setRow_heap _ _ _ _ _ _ hA2) HU.out rfl HI.out) rfl ⟨by rw [HD.out], below_setRow (hB.trans (hwt.mono (by omega))) (Nat.le_refl _) _⟩
set_option maxRecDepth 100000 in
set_option maxHeartbeats 4000000 in
theorem rootE_any (ds : List (List UInt8)) (v : Value) (w : World) (hmax : ds.length ≤ 1048576) (hV : Digs w v ds) :
    Calls Tryd.prog 21 #[v] w fun e w' => e = .returned (Dv (mtree ds)) ∧ Below w.heap.size w w' := by
  by_cases h0 : ds = []
  · obtain ⟨a, cap, rfl⟩ := hV.shape
    have hm : mtree ds = Sha.empty := by rw [mtree, if_pos h0]
    have hl : ds.length = 0 := by rw [h0]; rfl
    rw [hm, hl]
    clear hV hm hl h0
    have hd := Sha.empty_length
    have he := emptyR_any
    generalize Sha.empty = d at *
    go_enter Tryd.func21, Tryd.ntmps21
    go_wp2_with fail
    have hA := Arr.new w 23 (List.replicate 32 (V8 0))
    have hB : Below w.heap.size w (w.alloc (.cells (List.replicate 32 (V8 0)).toArray 23)) := (Below.refl _ _).alloc (Nat.le_refl _) _
    refine (he _).mono ?_
    rintro e w2 ⟨rfl, hb2⟩
    have hA2 := hA.below hb2 hA.lt
    have hB2 := hB.trans (hb2.mono hB.size)
    clear hA hB hb2
    go_wp2_with ((with_reducible refine at_st 23 (.tmp 2) (.tmp 7) ?_); refine wpList_store_row rfl 23 (.tmp 2) (.tmp 7) rfl w.heap.size (d.map V8).toArray rfl rfl 23 (List.replicate 32 (V8 0)).toArray hA2 (infoR d hd) (by rw [List.size_toArray, List.size_toArray, List.length_map, hd]; rfl) (v8_one _) ?_)
    exact bodyPost_ret (v := Dv d) (results_cell_row rfl _ _ w.heap.size 23 _ _ _ rfl (setRow_heap _ _ _ _ _ _ hA2) Tryd.underlying23 rfl (infoR d hd)) rfl ⟨rfl, below_setRow hB2 (Nat.le_refl _) _⟩
  · rw [mtree, if_neg h0]
    exact rootR_any ds.length ds v w (Nat.le_refl _) (by cases ds with | nil => exact absurd rfl h0 | cons _ _ => simp) hmax hV
set_option maxRecDepth 100000 in
set_option maxHeartbeats 4000000 in
theorem treeroot_any (ds : List (List UInt8)) (v : Value) (w : World) (hmax : ds.length ≤ 1048576) (hV : Digs w v ds) (hK : KT w) :
    Calls Tryd.prog 13 #[v] w fun e w' => e = .returned (.tuple #[Dv (mtree ds), .int .i64 0]) ∧ Below w.heap.size w w' := by
  have hd := mtree_length ds hV.all
  have Hk := Lib.hid hK; clear hK
  have hA := Arr.new w 24 (List.replicate 32 (V8 0))
  have hB : Below w.heap.size w (w.alloc (.cells (List.replicate 32 (V8 0)).toArray 24)) := (Below.refl _ _).alloc (Nat.le_refl _) _
  by_cases h0 : ds = []
  · obtain ⟨a, cap, rfl⟩ := hV.shape
    have hm : mtree ds = Sha.empty := by rw [mtree, if_pos h0]
    have hl : ds.length = 0 := by rw [h0]; rfl
    rw [hm] at hd ⊢
    rw [hl]
    clear hV hm hl h0
    have he := empty_any
    generalize Sha.empty = d at *
    have Hd := Lib.hid hd; have HAA := Lib.hid hA; have HB := Lib.hid hB
    clear hd hA hB
    go_enter Tryd.func13, Tryd.ntmps13
    go_wp2_with fail
    refine (he _ (Hk.out.below HB.out (Nat.le_refl _))).mono ?_
    rintro e w2 ⟨rfl, hb2⟩
    have hA2 := HAA.out.below hb2 HAA.out.lt
    have hB2 := HB.out.trans (hb2.mono HB.out.size)
    clear hb2
    go_wp2_with ((with_reducible refine at_st 24 (.tmp 2) (.tmp 11) ?_); refine wpList_store_row rfl 24 (.tmp 2) (.tmp 11) rfl w.heap.size (d.map V8).toArray rfl rfl 24 (List.replicate 32 (V8 0)).toArray hA2 (info24 d Hd.out) (by rw [List.size_toArray, List.size_toArray, List.length_map, Hd.out]; rfl) (v8_one _) ?_)
    exact bodyPost_ret (v := .tuple #[Dv d, .int .i64 0]) (results_row_tmp rfl _ _ w.heap.size 24 _ _ _ _ rfl rfl (setRow_heap _ _ _ _ _ _ hA2) Tryd.underlying24 rfl (info24 d Hd.out)) rfl ⟨rfl, below_setRow hB2 (Nat.le_refl _) _⟩
  · have hm : mtree ds = mroot ds := by rw [mtree, if_neg h0]
    have h1 : 1 ≤ ds.length := by cases ds with | nil => exact absurd rfl h0 | cons _ _ => simp
    have hr := fun w hV hK => root_any ds.length ds v w (Nat.le_refl _) h1 hmax hV hK
    rw [hm] at hd ⊢
    generalize mroot ds = d at *
    clear hm h0
    obtain ⟨a, cap, rfl⟩ := hV.shape
    have Hd := Lib.hid hd; have HAA := Lib.hid hA; have HB := Lib.hid hB; have HV := Lib.hid hV
    clear hd hA hB hV
    generalize ds.length = n at *
    go_enter Tryd.func13, Tryd.ntmps13
    go_wp2_with fail
    refine (hr _ (HV.out.below HB.out (Nat.le_refl _)) (Hk.out.below HB.out (Nat.le_refl _))).mono ?_
    rintro e w2 ⟨rfl, hb2⟩
    have hA2 := HAA.out.below hb2 HAA.out.lt
    have hB2 := HB.out.trans (hb2.mono HB.out.size)
    clear hb2
    go_wp2_with ((with_reducible refine at_st 24 (.tmp 2) (.tmp 13) ?_); refine wpList_store_row rfl 24 (.tmp 2) (.tmp 13) rfl w.heap.size (d.map V8).toArray rfl rfl 24 (List.replicate 32 (V8 0)).toArray hA2 (info24 d Hd.out) (by rw [List.size_toArray, List.size_toArray, List.length_map, Hd.out]; rfl) (v8_one _) ?_)
    exact bodyPost_ret (v := .tuple #[Dv d, .int .i64 0]) (results_row_tmp rfl _ _ w.heap.size 24 _ _ _ _ rfl rfl (setRow_heap _ _ _ _ _ _ hA2) Tryd.underlying24 rfl (info24 d Hd.out)) rfl ⟨rfl, below_setRow hB2 (Nat.le_refl _) _⟩
end Go.Proofs.YteehpfccegnjjaaDoor
