/-
  The contract of logtree.Collision.
-/
import Derived.Test.YteehpfccegnjjaaDoorCollE
import Derived.Test.YteehpfccegnjjaaDoorAll
namespace Go.Proofs.YteehpfccegnjjaaDoor
open Go Go.RowKit
theorem flatMap_get {α β : Type} (f : α → List β) (sz : Nat) (d : α) : ∀ (l : List α) (k j : Nat), (∀ x ∈ l, (f x).length = sz) → k < l.length → j < sz → (l.flatMap f)[k * sz + j]? = (f (l.getD k d))[j]?
  | [], k, j, _, hk, _ => by simp at hk
  | x :: l, 0, j, h, _, hj => by
    rw [List.flatMap_cons, List.getElem?_append_left (by have := h x (by simp); omega)]
    simp
  | x :: l, k + 1, j, h, hk, hj => by
    have hx := h x (by simp)
    rw [List.flatMap_cons, List.getElem?_append_right (by rw [hx, Nat.succ_mul]; omega), hx, show (k + 1) * sz + j - sz = k * sz + j by rw [Nat.succ_mul]; omega,
      flatMap_get f sz d l k j (fun y hy => h y (by simp [hy])) (by simpa using hk) hj]
    simp
theorem Own.pair {w : World} {base n cap : Nat} {T : TypeId} {av : Option Addr} {Q : Pairs} (h : Own w base T 64 (.slice av n cap) n (pcells Q)) (hn : n = Q.length) (hall : ∀ p ∈ Q, p.1.length = 32 ∧ p.2.length = 32) {k : Nat} (hk : k < n) :
    ∃ g, av = some ⟨g, 0, none⟩ ∧ base ≤ g ∧ g < w.heap.size ∧ w.rangeAt g (k * 64) ((Q.getD k ([], [])).1.map V8 ++ (Q.getD k ([], [])).2.map V8) := by
  have h2 := h
  obtain ⟨hl, ⟨_, h0⟩ | ⟨g, c2, cur, fr, hv, hb, hg, _⟩⟩ := h2
  · omega
  · simp only [Value.slice.injEq] at hv
    obtain ⟨rfl, _, _⟩ := hv
    refine ⟨g, rfl, hb, (Array.getElem?_eq_some_iff.1 hg).1, fun j v hj => ?_⟩
    have hj64 : j < 64 := by
      have h1 := (List.getElem?_eq_some_iff.1 hj).1
      have h3 : (Q.getD k ([], [])).1.length = 32 ∧ (Q.getD k ([], [])).2.length = 32 := by
        rw [List.getD_eq_getElem?_getD, List.getElem?_eq_getElem (by omega)]; exact hall _ (List.getElem_mem _)
      simp only [List.length_append, List.length_map] at h1
      omega
    have hlen : (pcells Q).length = n * 64 := hl
    rw [h.cell (k * 64 + j) (by rw [hlen]; omega)]
    unfold pcells
    rw [flatMap_get _ 64 ([], []) Q k j (fun x hx => by have := hall x hx; simp; omega) (by omega) hj64]
    exact hj
theorem range_pre {w : World} {g o : Nat} {a b : List Value} (h : w.rangeAt g o (a ++ b)) : w.rangeAt g o a := fun j v hj => h j v (by rw [List.getElem?_append_left (List.getElem?_eq_some_iff.1 hj).1]; exact hj)
theorem range_suf {w : World} {g o m : Nat} {a b : List Value} (h : w.rangeAt g o (a ++ b)) (hm : a.length = m) : w.rangeAt g (o + m) b := fun j v hj => by
  have := h (m + j) v (by rw [List.getElem?_append_right (by omega), show m + j - a.length = j by omega]; exact hj)
  rwa [show o + m + j = o + (m + j) by omega]
/-- The two proofs that Collision is called with, in its blocks. -/
structure CB (w0 : World) (A : Nat) (ca : List Value) (va : Value) (cb : List Value) (vb : Value) : Prop where
  r0 : w0.rangeAt A 0 ca
  c0 : w0.cell? ⟨A, 32, none⟩ = some va
  r1 : w0.rangeAt (A + 1) 0 cb
  c1 : w0.cell? ⟨A + 1, 32, none⟩ = some vb
  lt : A + 1 < w0.heap.size
theorem CB.below {w0 w1 : World} {A : Nat} {ca cb : List Value} {va vb : Value} (h : CB w0 A ca va cb vb) (hb : Below w0.heap.size w0 w1) : CB w1 A ca va cb vb :=
  have h1 := h.lt
  ⟨range_below h.r0 hb (by omega), (hb.cell (p := ⟨A, 32, none⟩) (by show A < _; omega)).trans h.c0, range_below h.r1 hb (by omega), (hb.cell (p := ⟨A + 1, 32, none⟩) (by show A + 1 < _; omega)).trans h.c1, Nat.lt_of_lt_of_le h1 hb.size⟩
theorem CB.size {w0 : World} {A : Nat} {ca cb : List Value} {va vb : Value} (h : CB w0 A ca va cb vb) : A + 2 ≤ w0.heap.size := h.lt
theorem cb_new (w : World) (T : TypeId) (ca cb : List Value) (va vb : Value) (ha : ca.length = 32) (hb : cb.length = 32) :
    CB ((w.alloc (.cells (ca ++ [va]).toArray T)).alloc (.cells (cb ++ [vb]).toArray T)) w.heap.size ca va cb vb ∧ Below w.heap.size w ((w.alloc (.cells (ca ++ [va]).toArray T)).alloc (.cells (cb ++ [vb]).toArray T)) := by
  have h := arr2 w T T (ca ++ [va]) (cb ++ [vb])
  refine ⟨⟨range_pre h.1.range, ?_, range_pre h.2.1.range, ?_, ?_⟩, h.2.2⟩
  · rw [h.1.cell, List.getElem?_append_right (by omega), ha]; rfl
  · rw [h.2.1.cell, List.getElem?_append_right (by omega), hb]; rfl
  · exact h.2.1.lt

def collM (P Q : Pairs) : List UInt8 × List UInt8 × Bool :=
  match scan P Q P.length with
  | none => ([], [], false)
  | some k => (Sha.join 1 [(P.getD k ([], [])).1, (P.getD k ([], [])).2], Sha.join 1 [(Q.getD k ([], [])).1, (Q.getD k ([], [])).2], true)
theorem infP64 : (Tryd.prog.info? 93).map (·.size) = some 64 := by kernel_rfl
theorem guardP : Tryd.prog.eqGuardType Tryd.prog.depth 93 = false := by kernel_rfl
theorem collS_m (i n : Nat) (la lb : List UInt8) (p q : List (List UInt8)) (h1 : (fromS la i n p).2 = 0) (h2 : (fromS lb i n q).2 = 0) (h3 : (fromS la i n p).1 = (fromS lb i n q).1) : collS i n la p lb q = collM (pclimb la i n p).1 (pclimb lb i n q).1 := by
  unfold collS
  rw [if_neg (by simp [h1, h2, h3])]
  simp only [Int.toNat_natCast]
  rfl

set_option maxRecDepth 100000 in
set_option linter.unusedSimpArgs false in
set_option maxHeartbeats 400000 in
theorem coll_any (i n : Int) (la lb : List UInt8) (p q : List (List UInt8)) (va vb : Value) (w : World) (hla : la.length = 32) (hlb : lb.length = 32) (hp : p.length ≤ 30) (hq : q.length ≤ 30) (hV : Digs w va p) (hW : Digs w vb q) (hK : KT w) :
    Calls Tryd.prog 26 #[.int .i64 i, .int .i64 n, .agg (la.map V8 ++ [va]).toArray, .agg (lb.map V8 ++ [vb]).toArray] w fun e w' =>
      e = .returned (.tuple #[.string (bs (collS i n la p lb q).1), .string (bs (collS i n la p lb q).2.1), .bool (collS i n la p lb q).2.2]) ∧ Below w.heap.size w w' := by
  obtain ⟨ca, hA, hAm, hal, hao⟩ := v8_list la hla
  obtain ⟨cb, hB, hBm, hbl, hbo⟩ := v8_list lb hlb
  have hu := Lib.hid Tryd.underlying24
  have Hk := Lib.hid hK; have HV := Lib.hid hV; have HW := Lib.hid hW
  obtain ⟨av, cv, rfl⟩ := hV.shape
  obtain ⟨aw, cw, rfl⟩ := hW.shape
  have hcb := cb_new w 52 ca cb (.slice av p.length cv) (.slice aw q.length cw) hal hbl
  have hcall1 := fun w hV hK => from_any la i n p (.slice av p.length cv) w hla hp hV hK
  have hcall2 := fun w hV hK => from_any lb i n q (.slice aw q.length cw) w hlb hq hV hK
  have hr1 := fromS_length la hla i n p
  have hr2 := fromS_length lb hlb i n q
  have hok1 := fun h => fromS_ok (la := la) (i := i) (n := n) (p := p) h
  have hok2 := fun h => fromS_ok (la := lb) (i := i) (n := n) (p := q) h
  have hcode1 : (fromS la i n p).2 = 0 ∨ (fromS la i n p).2 = 2 ∨ (fromS la i n p).2 = 35 := by unfold fromS; split; exact .inr (.inl rfl); split; exact .inl rfl; exact .inr (.inr rfl)
  have hcode2 : (fromS lb i n q).2 = 0 ∨ (fromS lb i n q).2 = 2 ∨ (fromS lb i n q).2 = 35 := by unfold fromS; split; exact .inr (.inl rfl); split; exact .inl rfl; exact .inr (.inr rfl)
  have hnot := collS_not i n la lb p q
  generalize hXc : collS i n la p lb q = XC at *
  have HXC := Lib.hid hXc
  rw [← hAm, ← hBm]
  generalize ca ++ [Value.slice av p.length cv] = xa at *
  generalize cb ++ [Value.slice aw q.length cw] = xb at *
  have HCB := Lib.hid hcb
  have HI := Lib.hid (show (Tryd.prog.info? 24).map (·.size) = some ca.length by rw [hal]; exact infD32)
  have HI2 := Lib.hid (show (Tryd.prog.info? 24).map (·.size) = some cb.length by rw [hbl]; exact infD32)
  rw [hA] at hcall1
  rw [hB] at hcall2
  generalize hF1 : fromS la i n p = F1 at *
  generalize hF2 : fromS lb i n q = F2 at *
  obtain ⟨r, e1⟩ := F1
  obtain ⟨s, e2⟩ := F2
  have HF1 := Lib.hid hF1; have HF2 := Lib.hid hF2
  simp only at hcall1 hcall2 hr1 hr2 hok1 hok2 hcode1 hcode2 hnot
  obtain ⟨lr, hR, -, hrl, hro⟩ := v8_list r hr1
  obtain ⟨ls, hS, -, hsl, hso⟩ := v8_list s hr2
  have HR := Lib.hid hR; have HS := Lib.hid hS
  have lr_I := Lib.hid (inf_size infD32 lr hrl); have lr_S := Lib.hid (st_size lr hrl); have lr_O := Lib.hid (all_oneCell_toArray hro)
  have ls_I := Lib.hid (inf_size infD32 ls hsl); have ls_S := Lib.hid (st_size ls hsl); have ls_O := Lib.hid (all_oneCell_toArray hso)
  have lr_L := Lib.hid (show (Tryd.prog.info? 24).map (·.size) = some lr.length by rw [hrl]; exact infD32)
  have ls_L := Lib.hid (show (Tryd.prog.info? 24).map (·.size) = some ls.length by rw [hsl]; exact infD32)
  have HA := Lib.hid hA; have HB := Lib.hid hB
  clear hA hB hAm hBm hao hbo hV hW hK hcb hXc hF1 hF2 hR hS hro hso hrl hsl hal hbl
  go_enter Tryd.func26, Tryd.ntmps26
  go_upto_region 1 with (fail)
  have ⟨k0, kB⟩ := HCB.out
  clear HCB
  change Code.wp _ _ _ _ ((w.alloc (.cells xa.toArray 52)).alloc (.cells xb.toArray 52))
  generalize (w.alloc (.cells xa.toArray 52)).alloc (.cells xb.toArray 52) = w0 at *
  have HV0 := Lib.hid (HV.out.below kB (Nat.le_refl _)); have HW0 := Lib.hid (HW.out.below kB (Nat.le_refl _)); have Hk0 := Lib.hid (Hk.out.below kB (Nat.le_refl _))
  clear HV HW Hk
  generalize hAe : w.heap.size = A at *
  have x32 := k0.c0; have y32 := k0.c1
  have X0 := Lib.hid k0.r0
  go_wp2_with ((with_reducible refine at_ld 24 (.tmp 23) ?_); refine wpList_load_mid rfl 24 (.tmp 23) rfl A 0 rfl ca _ X0.out hu.out rfl HI.out ?_)
  refine (hcall1 _ HV0.out Hk0.out).mono ?_
  rintro e w1 ⟨rfl, hb1⟩
  rw [HR.out]
  have k1 := k0.below hb1
  have kB1 := kB.trans (hb1.mono (by have := kB.size; omega))
  have v1 := Lib.hid (one_var w1 24 lr)
  have HW1 := Lib.hid (HW0.out.below hb1 (Nat.le_refl _)); have HV1 := Lib.hid (HV0.out.below hb1 (Nat.le_refl _)); have Hk1 := Lib.hid (Hk0.out.below hb1 (Nat.le_refl _))
  clear hb1 k0 kB HW0 HV0 Hk0 X0 x32 y32
  go_upto_region 2 with ((with_reducible refine at_st 24 (.tmp 11) (.tmp 30) ?_); refine wpList_store_row rfl 24 (.tmp 11) (.tmp 30) rfl w1.heap.size lr.toArray rfl rfl 24 _ v1.out.1 lr_I.out lr_S.out lr_O.out ?_)
  have ⟨_, rv, rB, rz⟩ := v1.out
  clear v1
  change Code.wp _ _ _ _ ((w1.alloc (Z32 24)).setRow w1.heap.size lr.toArray)
  generalize (w1.alloc (Z32 24)).setRow w1.heap.size lr.toArray = w2 at *
  have k2 := k1.below rB
  have kB2 := kB1.trans (rB.mono (by have := kB1.size; omega))
  have HW2 := Lib.hid (HW1.out.below rB (Nat.le_refl _)); have HV2 := Lib.hid (HV1.out.below rB (Nat.le_refl _)); have Hk2 := Lib.hid (Hk1.out.below rB (Nat.le_refl _))
  have k1s := k1.size
  generalize hg1 : w1.heap.size = g1 at *
  clear k1 kB1 rB HW1 HV1 Hk1
  have x32 := k2.c0; have y32 := k2.c1
  have X2 := Lib.hid k2.r1
  go_wp2_with ((with_reducible refine at_ld 24 (.tmp 33) ?_); refine wpList_load_mid rfl 24 (.tmp 33) rfl (A + 1) 0 rfl cb _ X2.out hu.out rfl HI2.out ?_)
  refine (hcall2 _ HW2.out Hk2.out).mono ?_
  rintro e w3 ⟨rfl, hb3⟩
  rw [HS.out]
  have k3 := k2.below hb3
  have r3 := rv.below hb3 rv.lt
  have kB3 := kB2.trans (hb3.mono (by have := kB2.size; omega))
  have v3 := Lib.hid (one_var w3 24 ls)
  have HW3 := Lib.hid (HW2.out.below hb3 (Nat.le_refl _)); have HV3 := Lib.hid (HV2.out.below hb3 (Nat.le_refl _)); have Hk3 := Lib.hid (Hk2.out.below hb3 (Nat.le_refl _))
  clear hb3 k2 kB2 HW2 HV2 Hk2 X2 x32 y32 rv
  go_upto_region 3 with ((with_reducible refine at_st 24 (.tmp 13) (.tmp 40) ?_); refine wpList_store_row rfl 24 (.tmp 13) (.tmp 40) rfl w3.heap.size ls.toArray rfl rfl 24 _ v3.out.1 ls_I.out ls_S.out ls_O.out ?_)
  have ⟨_, sv, sB, sz⟩ := v3.out
  clear v3
  change Code.wp _ _ _ _ ((w3.alloc (Z32 24)).setRow w3.heap.size ls.toArray)
  generalize (w3.alloc (Z32 24)).setRow w3.heap.size ls.toArray = w4 at *
  have k4 := k3.below sB
  have rv := r3.below sB r3.lt
  have kB4 := kB3.trans (sB.mono (by have := kB3.size; omega))
  have HW4 := Lib.hid (HW3.out.below sB (Nat.le_refl _)); have HV4 := Lib.hid (HV3.out.below sB (Nat.le_refl _)); have Hk4 := Lib.hid (Hk3.out.below sB (Nat.le_refl _))
  have k3s := r3.lt
  generalize hg3 : w3.heap.size = g3 at *
  clear k3 kB3 sB HW3 HV3 Hk3 r3
  by_cases hbad : e1 ≠ 0 ∨ e2 ≠ 0 ∨ r ≠ s
  · have hX := hnot hbad
    subst hX
    have hfin : Below A w w4 := kB4
    by_cases h1 : e1 = 0
    · subst h1
      by_cases h2 : e2 = 0
      · subst h2
        have hrs : ¬ r = s := by simpa using hbad
        refine wp_region_listed 10 [] (Below w4.heap.size w4) (by decide) (Stable.below w4) (Below.refl _ _) ?_
        simp only [List.range, List.range.loop, opsOf, List.getElem?_cons_succ, List.getElem?_cons_zero, List.drop_succ_cons, List.drop_zero]
        refine wpL_val ?v2 rfl (by rfl) (fun wq hq => ?y2) ?z2
        case y2 => go_simp; with_reducible rfl
        try simp only [Act.put, List.setIfInBounds_toArray, List.set_cons_zero, List.set_cons_succ]
        refine wpL_val ?v3 rfl (by rfl) (fun wq hq => ?y3) ?z3
        case y3 => go_simp; with_reducible rfl
        try simp only [Act.put, List.setIfInBounds_toArray, List.set_cons_zero, List.set_cons_succ]
        refine wpL_val ?v4 rfl (by rfl) (fun wq hq => ?y4) ?z4
        case y4 => go_simp; with_reducible rfl
        try simp only [Act.put, List.setIfInBounds_toArray, List.set_cons_zero, List.set_cons_succ]
        refine wpL_val ?v5 rfl (by rfl) (fun wq hq => ?y5) ?z5
        case y5 => go_simp; with_reducible rfl
        try simp only [Act.put, List.setIfInBounds_toArray, List.set_cons_zero, List.set_cons_succ]
        refine wpL_val ?v6 rfl (by rfl) (fun wq hq => ?y6) ?z6
        case y6 => go_simp; with_reducible rfl
        try simp only [Act.put, List.setIfInBounds_toArray, List.set_cons_zero, List.set_cons_succ]
        refine wpL_val ?v7 rfl (by rfl) (fun wq hq => ?y7) ?z7
        case y7 => go_simp; with_reducible rfl
        try simp only [Act.put, List.setIfInBounds_toArray, List.set_cons_zero, List.set_cons_succ]
        refine wpL_val ?v8 rfl (by rfl) (fun wq hq => ?y8) ?z8
        case y8 => go_simp; with_reducible rfl
        try simp only [Act.put, List.setIfInBounds_toArray, List.set_cons_zero, List.set_cons_succ]
        refine wpL_val (.agg lr.toArray) rfl (by rfl) (fun wq hq => quiet_ld 24 _ rfl _ _ rfl lr _ (range_below rv.range hq rv.lt) hu.out rfl lr_L.out) ?_
        try simp only [Act.put, List.setIfInBounds_toArray, List.set_cons_zero, List.set_cons_succ]
        refine wpL_val (.agg ls.toArray) rfl (by rfl) (fun wq hq => quiet_ld 24 _ rfl _ _ rfl ls _ (range_below sv.range hq sv.lt) hu.out rfl ls_L.out) ?_
        try simp only [Act.put, List.setIfInBounds_toArray, List.set_cons_zero, List.set_cons_succ]
        refine wpL_val ?v11 rfl (by rfl) (fun wq hq => ?y11) ?z11
        case y11 => go_simp; rw [eqlD r s hr1 hr2 _ _ HR.out HS.out, decide_eq_false hrs]; go_simp; with_reducible rfl
        try simp only [Act.put, List.setIfInBounds_toArray, List.set_cons_zero, List.set_cons_succ]
        refine wpL_nil ?_
        intro wt hwt
        go_wp2_with fail
        go_ret3
        exact ⟨rfl, hfin.trans (hwt.mono (by have := hfin.size; omega))⟩
      · have h3 : e2 = 2 ∨ e2 = 35 := by omega
        rcases h3 with rfl | rfl <;> (go_wp2_with fail; go_ret3; exact ⟨rfl, hfin⟩)
    · have h3 : e1 = 2 ∨ e1 = 35 := by omega
      rcases h3 with rfl | rfl <;> (go_wp2_with fail; go_ret3; exact ⟨rfl, hfin⟩)
  · have h0 : e1 = 0 ∧ e2 = 0 ∧ r = s := by
      refine ⟨?_, ?_, ?_⟩ <;> (apply Classical.byContradiction; intro h; exact hbad (by simp [h]))
    obtain ⟨rfl, rfl, rfl⟩ := h0
    clear hnot hbad hcode1 hcode2
    obtain ⟨n1, n2, i0, i1, hpl, hpr, -⟩ := hok1 rfl
    obtain ⟨-, -, -, -, hql, hqr, -⟩ := hok2 rfl
    obtain ⟨ni, rfl⟩ : ∃ k : Nat, i = k := ⟨i.toNat, by omega⟩
    obtain ⟨nn, rfl⟩ : ∃ k : Nat, n = k := ⟨n.toNat, by omega⟩
    have hXC := HXC.out
    rw [collS_m ni nn la lb p q (by rw [HF1.out]) (by rw [HF2.out]) (by rw [HF1.out, HF2.out])] at hXC
    simp only [Int.toNat_natCast] at hpl hpr hql hqr
    have hcl1 := fun w hV hK => climb_any nn la ni nn p (.slice av p.length cv) w hla (Nat.le_refl _) (by omega) (by omega) (by omega) hp hV hK
    have hcl2 := fun w hV hK => climb_any nn lb ni nn q (.slice aw q.length cw) w hlb (Nat.le_refl _) (by omega) (by omega) (by omega) hq hV hK
    have hPl := pclimb_len nn la ni nn p (Nat.le_refl _) hpl
    have hQl := pclimb_len nn lb ni nn q (Nat.le_refl _) hql
    have hPa := pclimb_pairs nn la ni nn p (Nat.le_refl _) hpl hla HV4.out.all
    have hQa := pclimb_pairs nn lb ni nn q (Nat.le_refl _) hql hlb HW4.out.all
    generalize plong ni nn = m at *
    generalize pclimb la ni nn p = R1 at *
    generalize pclimb lb ni nn q = R2 at *
    obtain ⟨P, pr, pw⟩ := R1
    obtain ⟨Q, qr, qw⟩ := R2
    simp only at hpr hqr hcl1 hcl2 hPl hQl hPa hQa hXC
    subst hpr
    subst hqr
    subst hXC
    have hm30 : m ≤ 30 := by omega
    rw [HA.out] at hcl1
    rw [HB.out] at hcl2
    clear HXC hok1 hok2 hcall1 hcall2 HF1 HF2
    have x32 := k4.c0; have y32 := k4.c1
    have X4 := Lib.hid k4.r0
    have hPlm := Lib.hid hPl; have hQlm := Lib.hid hQl
    rw [hPl] at hcl1
    rw [hQl] at hcl2
    clear hPl hQl hpl hql hp hq
    refine wp_region_listed 10 [] (Below w4.heap.size w4) (by decide) (Stable.below w4) (Below.refl _ _) ?_
    simp only [List.range, List.range.loop, opsOf, List.getElem?_cons_succ, List.getElem?_cons_zero, List.drop_succ_cons, List.drop_zero]
    refine wpL_val ?v14 rfl (by rfl) (fun wq hq => ?y14) ?z14
    case y14 => go_simp; with_reducible rfl
    try simp only [Act.put, List.setIfInBounds_toArray, List.set_cons_zero, List.set_cons_succ]
    refine wpL_val ?v15 rfl (by rfl) (fun wq hq => ?y15) ?z15
    case y15 => go_simp; with_reducible rfl
    try simp only [Act.put, List.setIfInBounds_toArray, List.set_cons_zero, List.set_cons_succ]
    refine wpL_val ?v16 rfl (by rfl) (fun wq hq => ?y16) ?z16
    case y16 => go_simp; with_reducible rfl
    try simp only [Act.put, List.setIfInBounds_toArray, List.set_cons_zero, List.set_cons_succ]
    refine wpL_val ?v17 rfl (by rfl) (fun wq hq => ?y17) ?z17
    case y17 => go_simp; with_reducible rfl
    try simp only [Act.put, List.setIfInBounds_toArray, List.set_cons_zero, List.set_cons_succ]
    refine wpL_val ?v18 rfl (by rfl) (fun wq hq => ?y18) ?z18
    case y18 => go_simp; with_reducible rfl
    try simp only [Act.put, List.setIfInBounds_toArray, List.set_cons_zero, List.set_cons_succ]
    refine wpL_val ?v19 rfl (by rfl) (fun wq hq => ?y19) ?z19
    case y19 => go_simp; with_reducible rfl
    try simp only [Act.put, List.setIfInBounds_toArray, List.set_cons_zero, List.set_cons_succ]
    refine wpL_val ?v20 rfl (by rfl) (fun wq hq => ?y20) ?z20
    case y20 => go_simp; with_reducible rfl
    try simp only [Act.put, List.setIfInBounds_toArray, List.set_cons_zero, List.set_cons_succ]
    refine wpL_val (.agg lr.toArray) rfl (by rfl) (fun wq hq => quiet_ld 24 _ rfl _ _ rfl lr _ (range_below rv.range hq rv.lt) hu.out rfl lr_L.out) ?_
    try simp only [Act.put, List.setIfInBounds_toArray, List.set_cons_zero, List.set_cons_succ]
    refine wpL_val (.agg ls.toArray) rfl (by rfl) (fun wq hq => quiet_ld 24 _ rfl _ _ rfl ls _ (range_below sv.range hq sv.lt) hu.out rfl ls_L.out) ?_
    try simp only [Act.put, List.setIfInBounds_toArray, List.set_cons_zero, List.set_cons_succ]
    refine wpL_val ?v23 rfl (by rfl) (fun wq hq => ?y23) ?z23
    case y23 => go_simp; rw [eqlD r r hr1 hr1 _ _ HR.out HS.out, decide_eq_true rfl]; go_simp; with_reducible rfl
    try simp only [Act.put, List.setIfInBounds_toArray, List.set_cons_zero, List.set_cons_succ]
    refine wpL_nil ?_
    intro wt hwt
    have k4 := k4.below hwt
    have kB4 := kB4.trans (hwt.mono (by have := kB4.size; omega))
    have HV4 := Lib.hid (HV4.out.below hwt (Nat.le_refl _)); have Hk4 := Lib.hid (Hk4.out.below hwt (Nat.le_refl _)); have HW4 := Lib.hid (HW4.out.below hwt (Nat.le_refl _))
    clear hwt rv sv X4 x32 y32
    have x32 := k4.c0
    go_upto_region 5 with (fail)
    have X4 := Lib.hid k4.r0
    go_wp2_with ((with_reducible refine at_ld 24 (.tmp 54) ?_); refine wpList_load_mid rfl 24 (.tmp 54) rfl A 0 rfl ca _ X4.out hu.out rfl HI.out ?_)
    refine (hcl1 _ HV4.out Hk4.out).mono ?_
    rintro e w5 ⟨pv, rfl, hPo, hb5⟩
    obtain ⟨ap, cp, rfl⟩ := hPo.shape
    rw [HR.out]
    have k5 := k4.below hb5
    have kB5 := kB4.trans (hb5.mono (by have := kB4.size; omega))
    have v5 := Lib.hid (one_var w5 24 lr)
    have HW5 := Lib.hid (HW4.out.below hb5 (Nat.le_refl _)); have Hk5 := Lib.hid (Hk4.out.below hb5 (Nat.le_refl _))
    have hPo5 := Lib.hid hPo
    clear hb5 k4 kB4 HW4 HV4 Hk4 X4 x32 hPo
    go_upto_region 6 with ((with_reducible refine at_st 24 (.tmp 16) (.tmp 62) ?_); refine wpList_store_row rfl 24 (.tmp 16) (.tmp 62) rfl w5.heap.size lr.toArray rfl rfl 24 _ v5.out.1 lr_I.out lr_S.out lr_O.out ?_)
    have ⟨_, _, tB, _⟩ := v5.out
    clear v5
    change Code.wp _ _ _ _ ((w5.alloc (Z32 24)).setRow w5.heap.size lr.toArray)
    generalize (w5.alloc (Z32 24)).setRow w5.heap.size lr.toArray = w6 at *
    have k6 := k5.below tB
    have kB6 := kB5.trans (tB.mono (by have := kB5.size; omega))
    have HW6 := Lib.hid (HW5.out.below tB (Nat.le_refl _)); have Hk6 := Lib.hid (Hk5.out.below tB (Nat.le_refl _))
    have hPo6 := Lib.hid (hPo5.out.below tB (Nat.le_refl _))
    generalize w5.heap.size = g5 at *
    clear k5 kB5 tB HW5 Hk5 hPo5
    have x32 := k6.c0; have y32 := k6.c1
    have X6 := Lib.hid k6.r1
    go_wp2_with ((with_reducible refine at_ld 24 (.tmp 65) ?_); refine wpList_load_mid rfl 24 (.tmp 65) rfl (A + 1) 0 rfl cb _ X6.out hu.out rfl HI2.out ?_)
    refine (hcl2 _ HW6.out Hk6.out).mono ?_
    rintro e w7 ⟨qv, rfl, hQo, hb7⟩
    obtain ⟨aq, cq, rfl⟩ := hQo.shape
    rw [HR.out]
    have kB7 := kB6.trans (hb7.mono (by have := kB6.size; omega))
    have v7 := Lib.hid (one_var w7 24 lr)
    have hPo7 := Lib.hid (hPo6.out.below hb7 (Nat.le_refl _))
    have hQo7 := Lib.hid hQo
    clear hb7 k6 kB6 HW6 Hk6 X6 x32 y32 hPo6 hQo
    have hml : IntKind.i64.wrap ((m : Int) - 1) = (m : Int) - 1 := by apply IntWalk.i64_in <;> omega
    go_upto_region 7 with ((with_reducible refine at_st 24 (.tmp 19) (.tmp 73) ?_); refine wpList_store_row rfl 24 (.tmp 19) (.tmp 73) rfl w7.heap.size lr.toArray rfl rfl 24 _ v7.out.1 lr_I.out lr_S.out lr_O.out ?_)
    have ⟨_, _, uB, _⟩ := v7.out
    clear v7
    change Code.wp _ _ _ _ ((w7.alloc (Z32 24)).setRow w7.heap.size lr.toArray)
    generalize (w7.alloc (Z32 24)).setRow w7.heap.size lr.toArray = w8 at *
    have kB8 := kB7.trans (uB.mono (by have := kB7.size; omega))
    have hPo8 := Lib.hid (hPo7.out.below uB (Nat.le_refl _))
    have hQo8 := Lib.hid (hQo7.out.below uB (Nat.le_refl _))
    clear kB7 uB hPo7 hQo7
    go_wp2_with fail
    have hlen2 : ∀ a b : List UInt8, a.length = 32 → b.length = 32 → ∀ x ∈ [a, b], x.length ≤ 300 := fun a b h1 h2 => two300 h1 h2
    go_loopw [21] (fun v wr => ∃ j : Nat, v = .int .i64 ((j : Int) - 1) ∧ j ≤ m ∧ scan P Q P.length = scan P Q j ∧ Below w8.heap.size w8 wr) (fun v _ => (intOf v + 1).toNat)
    case atStart => exact ⟨m, rfl, Nat.le_refl _, by rw [hPlm.out], Below.refl _ _⟩
    case round =>
      obtain ⟨j, rfl, hj, hsc, hbw⟩ := hrel
      have kBr : Below A w wr := kB8.trans (hbw.mono (by have := kB8.size; omega))
      rcases j with _ | k
      · have e1 : collM P Q = ([], [], false) := by unfold collM; rw [hsc]; rfl
        go_wp2_with fail
        go_ret3
        exact ⟨by rw [e1]; rfl, by rw [hAe]; exact kBr⟩
      · have ej : ((k + 1 : Nat) : Int) - 1 = (k : Int) := by omega
        rw [ej]
        obtain ⟨gp, rfl, -, hpl, hpr⟩ := hPo8.out.pair hPlm.out.symm hPa (show k < m by omega)
        obtain ⟨gq, rfl, -, hql, hqr⟩ := hQo8.out.pair hQlm.out.symm hQa (show k < m by omega)
        have hpk : (P.getD k ([], [])).1.length = 32 ∧ (P.getD k ([], [])).2.length = 32 := by
          rw [List.getD_eq_getElem?_getD, List.getElem?_eq_getElem (by have := hPlm.out; omega)]; exact hPa _ (List.getElem_mem _)
        have hqk : (Q.getD k ([], [])).1.length = 32 ∧ (Q.getD k ([], [])).2.length = 32 := by
          rw [List.getD_eq_getElem?_getD, List.getElem?_eq_getElem (by have := hQlm.out; omega)]; exact hQa _ (List.getElem_mem _)
        have hs1 : scan P Q (k + 1) = if P.getD k ([], []) = Q.getD k ([], []) then scan P Q k else some k := rfl
        have hcm : scan P Q P.length = some k → collM P Q = (Sha.join 1 [(P.getD k ([], [])).1, (P.getD k ([], [])).2], Sha.join 1 [(Q.getD k ([], [])).1, (Q.getD k ([], [])).2], true) := fun h => by unfold collM; rw [h]
        generalize P.getD k ([], []) = Pk at *
        generalize Q.getD k ([], []) = Qk at *
        obtain ⟨a, b⟩ := Pk
        obtain ⟨c, d⟩ := Qk
        simp only at hpk hqk hpr hqr hcm
        obtain ⟨ha, hb⟩ := hpk
        obtain ⟨hc, hd⟩ := hqk
        obtain ⟨l1, h1, h1m, h1l, -⟩ := v8_list a ha
        obtain ⟨l2, h2, h2m, h2l, -⟩ := v8_list b hb
        obtain ⟨l3, h3, h3m, h3l, -⟩ := v8_list c hc
        obtain ⟨l4, h4, h4m, h4l, -⟩ := v8_list d hd
        rw [← h1m, ← h2m] at hpr
        rw [← h3m, ← h4m] at hqr
        have heql : ∀ w, (Op.equalIn 10000 93 (.agg (l1 ++ l2).toArray) (.agg (l3 ++ l4).toArray)).run Tryd.prog w = .ok (decide ((a, b) = (c, d))) w := by rw [h1m, h2m, h3m, h4m]; exact eqlPair a b c d ha hb hc hd
        have L12 := Lib.hid (show (Tryd.prog.info? 93).map (·.size) = some (l1 ++ l2).length by rw [List.length_append, h1l, h2l]; exact infP64)
        have L34 := Lib.hid (show (Tryd.prog.info? 93).map (·.size) = some (l3 ++ l4).length by rw [List.length_append, h3l, h4l]; exact infP64)
        have R1 := Lib.hid (range_pre (range_below hpr hbw hpl)); have R2 := Lib.hid (range_suf (range_below hpr hbw hpl) h1l)
        have R3 := Lib.hid (range_pre (range_below hqr hbw hql)); have R4 := Lib.hid (range_suf (range_below hqr hbw hql) h3l)
        have R12 := Lib.hid (range_below hpr hbw hpl); have R34 := Lib.hid (range_below hqr hbw hql)
        generalize hl12 : l1 ++ l2 = l12 at *
        generalize hl34 : l3 ++ l4 = l34 at *
        have I1 := Lib.hid (show (Tryd.prog.info? 24).map (·.size) = some l1.length by rw [h1l]; exact infD32)
        have I2 := Lib.hid (show (Tryd.prog.info? 24).map (·.size) = some l2.length by rw [h2l]; exact infD32)
        have I3 := Lib.hid (show (Tryd.prog.info? 24).map (·.size) = some l3.length by rw [h3l]; exact infD32)
        have I4 := Lib.hid (show (Tryd.prog.info? 24).map (·.size) = some l4.length by rw [h4l]; exact infD32)
        have H1 := Lib.hid h1; have H2 := Lib.hid h2; have H3 := Lib.hid h3; have H4 := Lib.hid h4
        have hgp : gp < wr.heap.size := Nat.lt_of_lt_of_le hpl hbw.size
        have hgq : gq < wr.heap.size := Nat.lt_of_lt_of_le hql hbw.size
        have hup := Lib.hid Tryd.underlying93
        have HE := Lib.hid heql
        have HJ1 := Lib.hid (hlen2 a b ha hb); have HJ2 := Lib.hid (hlen2 c d hc hd)
        have hkm : k < m := by omega
        have HSC := Lib.hid hsc; have HS1 := Lib.hid hs1; have HCM := Lib.hid hcm; have HBW := Lib.hid hbw
        clear h1 h2 h3 h4 h1m h2m h3m h4m h1l h2l h3l h4l hl12 hl34 hpr hqr heql hlen2 hsc hs1 hcm hbw hPo8 hQo8 hpl hql hPa hQa
        go_upto_region 10 with (fail)
        by_cases hab : (a, b) = (c, d)
        · have HAB := Lib.hid hab
          clear hab
          refine wp_region_all [] [0, 1, 2, 3, 4, 5, 6, 7, 8] (Below wr.heap.size wr) (Stable.below wr) (Below.refl _ _).drew (by kernel_rfl) (by kernel_rfl) ?_
          simp only [opsOf, List.getElem?_cons_succ, List.getElem?_cons_zero, List.drop_succ_cons, List.drop_zero]
          refine wpL_val ?v26 rfl (by rfl) (fun wq hq => ?y26) ?z26
          case y26 => go_simp; with_reducible rfl
          try simp only [Act.put, List.setIfInBounds_toArray, List.set_cons_zero, List.set_cons_succ]
          refine wpL_val ?v27 rfl (by rfl) (fun wq hq => ?y27) ?z27
          case y27 => go_simp; with_reducible rfl
          try simp only [Act.put, List.setIfInBounds_toArray, List.set_cons_zero, List.set_cons_succ]
          refine wpL_val ?v28 rfl (by rfl) (fun wq hq => ?y28) ?z28
          case y28 => go_simp; with_reducible rfl
          try simp only [Act.put, List.setIfInBounds_toArray, List.set_cons_zero, List.set_cons_succ]
          refine wpL_val (.agg l12.toArray) rfl (by rfl) (fun wq hq => quiet_ld 93 _ rfl _ _ rfl l12 _ (range_below R12.out hq hgp) hup.out rfl L12.out) ?_
          try simp only [Act.put, List.setIfInBounds_toArray, List.set_cons_zero, List.set_cons_succ]
          refine wpL_val ?v30 rfl (by rfl) (fun wq hq => ?y30) ?z30
          case y30 => go_simp; with_reducible rfl
          try simp only [Act.put, List.setIfInBounds_toArray, List.set_cons_zero, List.set_cons_succ]
          refine wpL_val ?v31 rfl (by rfl) (fun wq hq => ?y31) ?z31
          case y31 => go_simp; with_reducible rfl
          try simp only [Act.put, List.setIfInBounds_toArray, List.set_cons_zero, List.set_cons_succ]
          refine wpL_val ?v32 rfl (by rfl) (fun wq hq => ?y32) ?z32
          case y32 => go_simp; with_reducible rfl
          try simp only [Act.put, List.setIfInBounds_toArray, List.set_cons_zero, List.set_cons_succ]
          refine wpL_val (.agg l34.toArray) rfl (by rfl) (fun wq hq => quiet_ld 93 _ rfl _ _ rfl l34 _ (range_below R34.out hq hgq) hup.out rfl L34.out) ?_
          try simp only [Act.put, List.setIfInBounds_toArray, List.set_cons_zero, List.set_cons_succ]
          refine wpL_val (.bool (!true)) rfl (by rfl) (fun wq hq => quiet_neq 93 _ _ _ rfl _ _ rfl rfl guardP true ((HE.out wq).trans (by rw [decide_eq_true HAB.out]))) ?_
          try simp only [Act.put, List.setIfInBounds_toArray, List.set_cons_zero, List.set_cons_succ]
          refine wpL_nil ?_
          intro wt hwt
          go_wp2_with fail
          go_roundw
          case rel => exact ⟨k, by go_num, by omega, by rw [HSC.out, HS1.out, if_pos HAB.out], HBW.out.trans (hwt.mono HBW.out.size)⟩
          case measure => simp [intOf]
        · have HAB := Lib.hid hab
          clear hab
          refine wp_region_all [] [0, 1, 2, 3, 4, 5, 6, 7, 8] (Below wr.heap.size wr) (Stable.below wr) (Below.refl _ _).drew (by kernel_rfl) (by kernel_rfl) ?_
          simp only [opsOf, List.getElem?_cons_succ, List.getElem?_cons_zero, List.drop_succ_cons, List.drop_zero]
          refine wpL_val ?v37 rfl (by rfl) (fun wq hq => ?y37) ?z37
          case y37 => go_simp; with_reducible rfl
          try simp only [Act.put, List.setIfInBounds_toArray, List.set_cons_zero, List.set_cons_succ]
          refine wpL_val ?v38 rfl (by rfl) (fun wq hq => ?y38) ?z38
          case y38 => go_simp; with_reducible rfl
          try simp only [Act.put, List.setIfInBounds_toArray, List.set_cons_zero, List.set_cons_succ]
          refine wpL_val ?v39 rfl (by rfl) (fun wq hq => ?y39) ?z39
          case y39 => go_simp; with_reducible rfl
          try simp only [Act.put, List.setIfInBounds_toArray, List.set_cons_zero, List.set_cons_succ]
          refine wpL_val (.agg l12.toArray) rfl (by rfl) (fun wq hq => quiet_ld 93 _ rfl _ _ rfl l12 _ (range_below R12.out hq hgp) hup.out rfl L12.out) ?_
          try simp only [Act.put, List.setIfInBounds_toArray, List.set_cons_zero, List.set_cons_succ]
          refine wpL_val ?v41 rfl (by rfl) (fun wq hq => ?y41) ?z41
          case y41 => go_simp; with_reducible rfl
          try simp only [Act.put, List.setIfInBounds_toArray, List.set_cons_zero, List.set_cons_succ]
          refine wpL_val ?v42 rfl (by rfl) (fun wq hq => ?y42) ?z42
          case y42 => go_simp; with_reducible rfl
          try simp only [Act.put, List.setIfInBounds_toArray, List.set_cons_zero, List.set_cons_succ]
          refine wpL_val ?v43 rfl (by rfl) (fun wq hq => ?y43) ?z43
          case y43 => go_simp; with_reducible rfl
          try simp only [Act.put, List.setIfInBounds_toArray, List.set_cons_zero, List.set_cons_succ]
          refine wpL_val (.agg l34.toArray) rfl (by rfl) (fun wq hq => quiet_ld 93 _ rfl _ _ rfl l34 _ (range_below R34.out hq hgq) hup.out rfl L34.out) ?_
          try simp only [Act.put, List.setIfInBounds_toArray, List.set_cons_zero, List.set_cons_succ]
          refine wpL_val (.bool (!false)) rfl (by rfl) (fun wq hq => quiet_neq 93 _ _ _ rfl _ _ rfl rfl guardP false ((HE.out wq).trans (by rw [decide_eq_false HAB.out]))) ?_
          try simp only [Act.put, List.setIfInBounds_toArray, List.set_cons_zero, List.set_cons_succ]
          refine wpL_nil ?_
          intro wa hwa
          have R1 := Lib.hid (range_below R1.out hwa hgp); have R2 := Lib.hid (range_below R2.out hwa hgp)
          have R3 := Lib.hid (range_below R3.out hwa hgq); have R4 := Lib.hid (range_below R4.out hwa hgq)
          have hgp := Nat.lt_of_lt_of_le hgp hwa.size
          have hgq := Nat.lt_of_lt_of_le hgq hwa.size
          have kBa : Below A w wa := kBr.trans (hwa.mono (by have := kBr.size; omega))
          clear hwa R12 R34
          go_upto_region 11 with (fail)
          refine wp_region_all [12, 13] [0, 1, 2, 3, 4, 5, 6, 7, 8, 9, 10, 11, 12, 13, 14, 15, 16, 17] (Below wa.heap.size wa) (Stable.below wa) (Below.refl _ _).drew (by kernel_rfl) (by kernel_rfl) ?_
          simp only [opsOf, List.getElem?_cons_succ, List.getElem?_cons_zero, List.drop_succ_cons, List.drop_zero]
          refine wpL_val ?v48 rfl (by rfl) (fun wq hq => ?y48) ?z48
          case y48 => go_simp; with_reducible rfl
          try simp only [Act.put, List.setIfInBounds_toArray, List.set_cons_zero, List.set_cons_succ]
          refine wpL_val ?v49 rfl (by rfl) (fun wq hq => ?y49) ?z49
          case y49 => go_simp; with_reducible rfl
          try simp only [Act.put, List.setIfInBounds_toArray, List.set_cons_zero, List.set_cons_succ]
          refine wpL_val ?v50 rfl (by rfl) (fun wq hq => ?y50) ?z50
          case y50 => go_simp; with_reducible rfl
          try simp only [Act.put, List.setIfInBounds_toArray, List.set_cons_zero, List.set_cons_succ]
          refine wpL_val ?v51 rfl (by rfl) (fun wq hq => ?y51) ?z51
          case y51 => go_simp; with_reducible rfl
          try simp only [Act.put, List.setIfInBounds_toArray, List.set_cons_zero, List.set_cons_succ]
          refine wpL_val (.agg l1.toArray) rfl (by rfl) (fun wq hq => quiet_ld 24 _ rfl _ _ rfl l1 _ (range_below R1.out hq hgp) hu.out rfl I1.out) ?_
          try simp only [Act.put, List.setIfInBounds_toArray, List.set_cons_zero, List.set_cons_succ]
          refine wpL_val ?v53 rfl (by rfl) (fun wq hq => ?y53) ?z53
          case y53 => go_simp; exact text_la a ha l1 H1.out _
          try simp only [Act.put, List.setIfInBounds_toArray, List.set_cons_zero, List.set_cons_succ]
          refine wpL_val ?v54 rfl (by rfl) (fun wq hq => ?y54) ?z54
          case y54 => go_simp; with_reducible rfl
          try simp only [Act.put, List.setIfInBounds_toArray, List.set_cons_zero, List.set_cons_succ]
          refine wpL_val ?v55 rfl (by rfl) (fun wq hq => ?y55) ?z55
          case y55 => go_simp; with_reducible rfl
          try simp only [Act.put, List.setIfInBounds_toArray, List.set_cons_zero, List.set_cons_succ]
          refine wpL_val ?v56 rfl (by rfl) (fun wq hq => ?y56) ?z56
          case y56 => go_simp; with_reducible rfl
          try simp only [Act.put, List.setIfInBounds_toArray, List.set_cons_zero, List.set_cons_succ]
          refine wpL_val ?v57 rfl (by rfl) (fun wq hq => ?y57) ?z57
          case y57 => go_simp; with_reducible rfl
          try simp only [Act.put, List.setIfInBounds_toArray, List.set_cons_zero, List.set_cons_succ]
          refine wpL_val (.agg l2.toArray) rfl (by rfl) (fun wq hq => quiet_ld 24 _ rfl _ _ rfl l2 _ (range_below R2.out hq hgp) hu.out rfl I2.out) ?_
          try simp only [Act.put, List.setIfInBounds_toArray, List.set_cons_zero, List.set_cons_succ]
          refine wpL_val ?v59 rfl (by rfl) (fun wq hq => ?y59) ?z59
          case y59 => go_simp; exact text_la b hb l2 H2.out _
          try simp only [Act.put, List.setIfInBounds_toArray, List.set_cons_zero, List.set_cons_succ]
          refine wpL_new (fun g => .slice (some ⟨g, 0, none⟩) 2 2) (.cells #[.string (bs a), .string (bs b)] 9) rfl (by rfl) (Stable.below wa) (fun _ h => h) (fun wq hq => ?y60) (fun g0 hg0 => ?_)
          case y60 => go_simp
          try simp only [Act.put, List.setIfInBounds_toArray, List.set_cons_zero, List.set_cons_succ]
          refine wpL_one ?v61 rfl (by rfl) (Stable.fresh (Stable.below wa) _ _) (fun _ h => h.1) (fun wq hq => ?y61) ?z61
          case y61 => go_simp; exact join_any 1 [a, b] (by simp) HJ1.out _ _ (strs_fresh _ _ _ _ hq.2)
          try simp only [Act.put, List.setIfInBounds_toArray, List.set_cons_zero, List.set_cons_succ]
          refine wpL_val ?v62 rfl (by rfl) (fun wq hq => ?y62) ?z62
          case y62 => go_simp; with_reducible rfl
          try simp only [Act.put, List.setIfInBounds_toArray, List.set_cons_zero, List.set_cons_succ]
          refine wpL_val ?v63 rfl (by rfl) (fun wq hq => ?y63) ?z63
          case y63 => go_simp; with_reducible rfl
          try simp only [Act.put, List.setIfInBounds_toArray, List.set_cons_zero, List.set_cons_succ]
          refine wpL_val ?v64 rfl (by rfl) (fun wq hq => ?y64) ?z64
          case y64 => go_simp; with_reducible rfl
          try simp only [Act.put, List.setIfInBounds_toArray, List.set_cons_zero, List.set_cons_succ]
          refine wpL_val ?v65 rfl (by rfl) (fun wq hq => ?y65) ?z65
          case y65 => go_simp; with_reducible rfl
          try simp only [Act.put, List.setIfInBounds_toArray, List.set_cons_zero, List.set_cons_succ]
          refine wpL_nil ?_
          intro wb hwb
          have R3 := Lib.hid (range_below R3.out hwb.1 hgq); have R4 := Lib.hid (range_below R4.out hwb.1 hgq)
          have hgq := Nat.lt_of_lt_of_le hgq hwb.1.size
          have kBb : Below A w wb := kBa.trans (hwb.1.mono (by have := kBa.size; omega))
          clear hwb R1 R2
          go_upto_region 12 with (fail)
          refine wp_region_all [12, 13] [0, 1, 2, 3, 4, 5, 6, 7, 8, 9, 10, 11, 12, 13, 14, 15, 16, 17] (Below wb.heap.size wb) (Stable.below wb) (Below.refl _ _).drew (by kernel_rfl) (by kernel_rfl) ?_
          simp only [opsOf, List.getElem?_cons_succ, List.getElem?_cons_zero, List.drop_succ_cons, List.drop_zero]
          refine wpL_val ?v68 rfl (by rfl) (fun wq hq => ?y68) ?z68
          case y68 => go_simp; with_reducible rfl
          try simp only [Act.put, List.setIfInBounds_toArray, List.set_cons_zero, List.set_cons_succ]
          refine wpL_val ?v69 rfl (by rfl) (fun wq hq => ?y69) ?z69
          case y69 => go_simp; with_reducible rfl
          try simp only [Act.put, List.setIfInBounds_toArray, List.set_cons_zero, List.set_cons_succ]
          refine wpL_val ?v70 rfl (by rfl) (fun wq hq => ?y70) ?z70
          case y70 => go_simp; with_reducible rfl
          try simp only [Act.put, List.setIfInBounds_toArray, List.set_cons_zero, List.set_cons_succ]
          refine wpL_val ?v71 rfl (by rfl) (fun wq hq => ?y71) ?z71
          case y71 => go_simp; with_reducible rfl
          try simp only [Act.put, List.setIfInBounds_toArray, List.set_cons_zero, List.set_cons_succ]
          refine wpL_val (.agg l3.toArray) rfl (by rfl) (fun wq hq => quiet_ld 24 _ rfl _ _ rfl l3 _ (range_below R3.out hq hgq) hu.out rfl I3.out) ?_
          try simp only [Act.put, List.setIfInBounds_toArray, List.set_cons_zero, List.set_cons_succ]
          refine wpL_val ?v73 rfl (by rfl) (fun wq hq => ?y73) ?z73
          case y73 => go_simp; exact text_la c hc l3 H3.out _
          try simp only [Act.put, List.setIfInBounds_toArray, List.set_cons_zero, List.set_cons_succ]
          refine wpL_val ?v74 rfl (by rfl) (fun wq hq => ?y74) ?z74
          case y74 => go_simp; with_reducible rfl
          try simp only [Act.put, List.setIfInBounds_toArray, List.set_cons_zero, List.set_cons_succ]
          refine wpL_val ?v75 rfl (by rfl) (fun wq hq => ?y75) ?z75
          case y75 => go_simp; with_reducible rfl
          try simp only [Act.put, List.setIfInBounds_toArray, List.set_cons_zero, List.set_cons_succ]
          refine wpL_val ?v76 rfl (by rfl) (fun wq hq => ?y76) ?z76
          case y76 => go_simp; with_reducible rfl
          try simp only [Act.put, List.setIfInBounds_toArray, List.set_cons_zero, List.set_cons_succ]
          refine wpL_val ?v77 rfl (by rfl) (fun wq hq => ?y77) ?z77
          case y77 => go_simp; with_reducible rfl
          try simp only [Act.put, List.setIfInBounds_toArray, List.set_cons_zero, List.set_cons_succ]
          refine wpL_val (.agg l4.toArray) rfl (by rfl) (fun wq hq => quiet_ld 24 _ rfl _ _ rfl l4 _ (range_below R4.out hq hgq) hu.out rfl I4.out) ?_
          try simp only [Act.put, List.setIfInBounds_toArray, List.set_cons_zero, List.set_cons_succ]
          refine wpL_val ?v79 rfl (by rfl) (fun wq hq => ?y79) ?z79
          case y79 => go_simp; exact text_la d hd l4 H4.out _
          try simp only [Act.put, List.setIfInBounds_toArray, List.set_cons_zero, List.set_cons_succ]
          refine wpL_new (fun g => .slice (some ⟨g, 0, none⟩) 2 2) (.cells #[.string (bs c), .string (bs d)] 9) rfl (by rfl) (Stable.below wb) (fun _ h => h) (fun wq hq => ?y80) (fun g0 hg0 => ?_)
          case y80 => go_simp
          try simp only [Act.put, List.setIfInBounds_toArray, List.set_cons_zero, List.set_cons_succ]
          refine wpL_one ?v81 rfl (by rfl) (Stable.fresh (Stable.below wb) _ _) (fun _ h => h.1) (fun wq hq => ?y81) ?z81
          case y81 => go_simp; exact join_any 1 [c, d] (by simp) HJ2.out _ _ (strs_fresh _ _ _ _ hq.2)
          try simp only [Act.put, List.setIfInBounds_toArray, List.set_cons_zero, List.set_cons_succ]
          refine wpL_val ?v82 rfl (by rfl) (fun wq hq => ?y82) ?z82
          case y82 => go_simp; with_reducible rfl
          try simp only [Act.put, List.setIfInBounds_toArray, List.set_cons_zero, List.set_cons_succ]
          refine wpL_val ?v83 rfl (by rfl) (fun wq hq => ?y83) ?z83
          case y83 => go_simp; with_reducible rfl
          try simp only [Act.put, List.setIfInBounds_toArray, List.set_cons_zero, List.set_cons_succ]
          refine wpL_val ?v84 rfl (by rfl) (fun wq hq => ?y84) ?z84
          case y84 => go_simp; with_reducible rfl
          try simp only [Act.put, List.setIfInBounds_toArray, List.set_cons_zero, List.set_cons_succ]
          refine wpL_val ?v85 rfl (by rfl) (fun wq hq => ?y85) ?z85
          case y85 => go_simp; with_reducible rfl
          try simp only [Act.put, List.setIfInBounds_toArray, List.set_cons_zero, List.set_cons_succ]
          refine wpL_nil ?_
          intro wc hwc
          have kBc : Below A w wc := kBb.trans (hwc.1.mono (by have := kBb.size; omega))
          have e1 := HCM.out (by rw [HSC.out, HS1.out, if_neg HAB.out])
          go_wp2_with fail
          go_ret3
          exact ⟨by rw [e1]; rfl, by rw [hAe]; exact kBc⟩
end Go.Proofs.YteehpfccegnjjaaDoor
