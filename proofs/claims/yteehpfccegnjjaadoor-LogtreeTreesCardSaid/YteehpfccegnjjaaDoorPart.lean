/-
  The contract of Tree.part.
-/
import Derived.Test.YteehpfccegnjjaaDoorTr
namespace Go.Proofs.YteehpfccegnjjaaDoor
open Go Go.RowKit
theorem Own.dig {w : World} {base n cap : Nat} {T : TypeId} {av : Option Addr} {ds : List (List UInt8)} (h : Own w base T 32 (.slice av n cap) n (flat ds)) (hn : n = ds.length) (hall : ∀ d ∈ ds, d.length = 32) {k : Nat} (hk : k < n) :
    ∃ g, av = some ⟨g, 0, none⟩ ∧ base ≤ g ∧ g < w.heap.size ∧ w.rangeAt g (k * 32) ((ds.getD k []).map V8) := by
  have h2 := h
  obtain ⟨hl, ⟨_, h0⟩ | ⟨g, c2, cur, fr, hv, hb, hg, _⟩⟩ := h2
  · omega
  · simp only [Value.slice.injEq] at hv
    obtain ⟨rfl, _, _⟩ := hv
    refine ⟨g, rfl, hb, (Array.getElem?_eq_some_iff.1 hg).1, fun j v hj => ?_⟩
    have hj32 : j < 32 := by
      have h1 := (List.getElem?_eq_some_iff.1 hj).1
      rw [List.length_map, getD_mem_32 ds hall k (by omega)] at h1
      exact h1
    rw [h.cell (k * 32 + j) (by rw [hl]; omega), flat_get ds hall k j (by omega) hj32]
    exact hj
theorem place110 : placesOf Tryd.prog 110 = some (some 2, some [(0, 1), (1, 1)]) := by kernel_rfl
theorem built_span (a b : Int) : Tryd.prog.built 110 [(0, .int .i64 a), (1, .int .i64 b)] = some #[.int .i64 a, .int .i64 b] := by
  have := built_mixed (P := Tryd.prog) 110 2 _ place110 [.int .i64 a, .int .i64 b] (fun j v hj => by
    rcases j with _ | _ | j <;> simp at hj <;> subst hj <;> simp [Value.cells]) (by simp [Value.cells])
  simpa [Value.cells] using this
theorem info110 : (Tryd.prog.info? 110).map (·.size) = some 2 := by kernel_rfl
theorem zero110 : (Tryd.prog.info? 110).map (fun i => (i.size, i.zero.map (·.cells))) = some (2, some #[.int .i64 0, .int .i64 0]) := by kernel_rfl
theorem one_two (a b : Int) : (#[Value.int .i64 a, Value.int .i64 b] : Array Value).all (·.oneCell') = true := all_oneCell_toArray (cs := [Value.int .i64 a, Value.int .i64 b]) (by intro v hv; simp only [List.mem_cons, List.not_mem_nil, or_false] at hv; rcases hv with rfl | rfl <;> rfl)
theorem zero24 : (Tryd.prog.info? 24).map (fun i => (i.size, i.zero.map (·.cells))) = some (32, some (List.replicate 32 (V8 0)).toArray) := by kernel_rfl
theorem quiet_look {P : Program} {C : World → Prop} {o : Oper} {a : Act} {w : World} (t : TypeId) (x k : Operand) (ho : o.op = .lookup t x k true) (mv kv : Value) (hx : a.eval x = mv) (hk : a.eval k = kv) {v : Value} (h : (Instr.lookup t mv kv true).run P w = .ok v w) :
    o.quietAt P a C w v := by
  refine quiet_run ?_
  unfold execOp
  simp only [ho, hx, hk, Sem.run_bind, h, Result.andThen_ok]
  rfl
theorem stored_fin {w0 wt : World} {g0 : Nat} {z c : Array Value} {T : TypeId} (hw : ∃ w, (Below w0.heap.size w0 w ∧ Fresh g0 (.cells z T) w) ∧ Below (w.setRow g0 c).heap.size (w.setRow g0 c) wt) (hg : w0.heap.size ≤ g0) : Below w0.heap.size w0 wt ∧ Arr wt g0 T c.toList := by
  obtain ⟨w, ⟨h1, h2⟩, h3⟩ := hw
  have hs : (w.setRow g0 c).heap.size = w.heap.size := by simp [World.setRow]
  have hA : Arr w g0 T z.toList := h2.2
  have := hA.setRow c
  exact ⟨(below_setRow h1 hg _).trans (h3.mono (by rw [hs]; exact h1.size)), this.below h3 this.lt⟩
theorem eql_map_nil (w : World) : (binOp .eql 101 (.map none) (.map none)).run Tryd.prog w = .ok (.bool true) w := by
  have h : ∀ d, (Op.equalIn (d + 1) 101 (.map none) (.map none)).run Tryd.prog w = .ok true w := fun d => by simp [Op.equalIn, run_underlying Tryd.underlying101]
  have h2 : (Op.equal 101 (.map none) (.map none)).run Tryd.prog w = .ok true w := h 9999
  simp only [binOp, Sem.run_bind, h2, Result.andThen_ok, Sem.run_pure]
theorem eql_map_some (b : Nat) (w : World) : (binOp .eql 101 (.map (some b)) (.map none)).run Tryd.prog w = .ok (.bool false) w := by
  have h : ∀ d, (Op.equalIn (d + 1) 101 (.map (some b)) (.map none)).run Tryd.prog w = .ok false w := fun d => by simp [Op.equalIn, run_underlying Tryd.underlying101]
  have h2 : (Op.equal 101 (.map (some b)) (.map none)).run Tryd.prog w = .ok false w := h 9999
  simp only [binOp, Sem.run_bind, h2, Result.andThen_ok, Sem.run_pure]
theorem under110 : ∃ d, Tryd.prog.underlying 110 = some d ∧ d.isRow = true := ⟨_, span_under, rfl⟩
set_option maxRecDepth 100000 in
set_option linter.unusedSimpArgs false in
set_option maxHeartbeats 2000000 in
theorem part_any (base g : Nat) (ds : List (List UInt8)) (hmax : ds.length < 1048576) (N : Nat) : ∀ (fr n to : Nat) (w : World) (v mv : Value), n ≤ N → 1 ≤ n → to = fr + n → to ≤ ds.length → Tr w base g ds v mv →
    Calls Tryd.prog 61 #[.pointer (some ⟨g, 0, none⟩), .int .i64 fr, .int .i64 to] w fun e w' => e = .returned (Dv (mroot (seg ds fr to))) ∧ PT w base g ds v mv w' := by
  induction N with
  | zero => intro fr n to w v mv h1 h2; omega
  | succ N ih =>
    intro fr n to w v mv hN h1 hto hle hT
    have hu := Lib.hid Tryd.underlying24
    have hsub : IntKind.i64.wrap ((to : Int) - (fr : Int)) = (n : Int) := by rw [show ((to : Int) - (fr : Int)) = (n : Int) by omega]; apply IntWalk.i64_in <;> omega
    have hA := Arr.new w 24 (List.replicate 32 (V8 0))
    have hB : Below w.heap.size w (w.alloc (Z32 24)) := below_alloc _ _
    have HTo := Lib.hid hto; have HLe := Lib.hid hle; have HN := Lib.hid hN; have HMx := Lib.hid hmax
    by_cases hn1 : n = 1
    · subst hn1
      have hTA := hT.arr; have hTO := hT.own
      obtain ⟨av, cv, rfl⟩ := hTO.shape
      obtain ⟨gl, rfl, -, hgl, hrl⟩ := hTO.dig rfl hT.all (show fr < ds.length by omega)
      have e : mroot (seg ds fr to) = ds.getD fr [] := by rw [hto]; exact seg_one ds fr (by omega)
      have hd := getD_mem_32 ds hT.all fr (by omega)
      rw [e]
      generalize ds.getD fr [] = d at *
      obtain ⟨ld, hD, hDm, hdl, hdo⟩ := v8_list d hd
      rw [← hDm] at hrl
      rw [hD]
      have c0 := (hB.cell (p := ⟨g, 0, none⟩) hTA.lt).trans (hTA.cell 0)
      simp only [List.getElem?_cons_zero] at c0
      have HR := Lib.hid (range_below hrl hB hgl); have HAA := Lib.hid hA
      have HI := Lib.hid (inf_size infD32 ld hdl); have HS := Lib.hid (st_size ld hdl); have HO := Lib.hid (all_oneCell_toArray hdo)
      have HL := Lib.hid (show (Tryd.prog.info? 24).map (·.size) = some ld.length by rw [hdl]; exact infD32)
      have hfl : (fr : Int) < (ds.length : Int) := by omega
      have HB := Lib.hid hB; have HTt := Lib.hid hT
      generalize ds.length = m at *
      have hsz : w.heap.size < (w.alloc (Z32 24)).heap.size := hA.lt
      have HC0 := Lib.hid c0
      clear hD hDm hdl hdo hrl hA hTA hTO ih e hd hB hT hmax hto hle hN hgl c0
      go_enter Tryd.func61, Tryd.ntmps61
      go_upto_region 3 with (fail)
      change Code.wp _ _ _ _ (w.alloc (Z32 24))
      have c0 := HC0.out
      clear HC0
      generalize w.alloc (Z32 24) = w0 at *
      go_wp2_with (first | ((with_reducible refine at_ld 24 (.tmp 24) ?_); refine wpList_load_mid rfl 24 (.tmp 24) rfl gl (fr * 32) rfl ld _ HR.out hu.out rfl HL.out ?_) | ((with_reducible refine at_st 24 (.tmp 6) (.tmp 25) ?_); refine wpList_store_row rfl 24 (.tmp 6) (.tmp 25) rfl w.heap.size ld.toArray rfl rfl 24 (List.replicate 32 (V8 0)).toArray HAA.out HI.out HS.out HO.out ?_))
      exact bodyPost_ret (v := .agg ld.toArray) (results_cell_row rfl _ _ w.heap.size 24 _ _ _ rfl (setRow_heap _ _ _ _ _ _ HAA.out) hu.out rfl HI.out) rfl ⟨rfl, PT.below HTt.out (below_setRow HB.out (Nat.le_refl _) _)⟩
    · have h2 : 2 ≤ n := by omega
      have hni : ¬ (n : Int) = 1 := by omega
      have HA := Lib.hid hA; have HB := Lib.hid hB; have HT := Lib.hid hT
      clear hA hB hT hto hle hN hmax
      go_enter Tryd.func61, Tryd.ntmps61
      go_upto_region 4 with (fail)
      have hA := HA.out; have hB := HB.out
      clear HA HB hsub
      change Code.wp _ _ _ _ (w.alloc (Z32 24))
      have hA0 : w.heap.size < (w.alloc (Z32 24)).heap.size := hA.lt
      generalize w.alloc (Z32 24) = w0 at *
      generalize hRe : w.heap.size = R at *
      go_cut [8] from 14 (fun v8 w' => ∃ full : Bool, v8 = .bool full ∧ (full = true → n = 2 ^ n.log2 ∧ fr = fr / n * n) ∧ w' = w0)
      case first =>
        have hmx := HMx.out; have hto := HTo.out; have hle := HLe.out
        have hw1 : IntKind.i64.wrap ((n : Int) - 1) = ((n - 1 : Nat) : Int) := by rw [show ((n : Int) - 1) = ((n - 1 : Nat) : Int) by omega]; apply IntWalk.i64_in <;> omega
        have hand := b_and n (n - 1) (by omega) (by omega)
        have hpw := fun h => pow_of_and (n := n) (by omega) h
        have hrem : (fr : Int).tmod (n : Int) = ((fr % n : Nat) : Int) := (Int.ofNat_tmod _ _).symm
        have hrem2 : (fr : Int) % (n : Int) = ((fr % n : Nat) : Int) := rfl
        have hdv : fr % n = 0 → fr = fr / n * n := fun h => by have := Nat.div_add_mod fr n; rw [h, Nat.mul_comm] at this; omega
        have hn0 : ¬ (n : Int) = 0 := by omega
        generalize fr % n = rm at *
        generalize n - 1 = n1 at *
        generalize n &&& n1 = q at *
        clear hmx hto hle h2 h1
        by_cases hq : q = 0
        · have hqi : (q : Int) = 0 := by omega
          have hqb : ((q : Int) == 0) = true := by simpa using hq
          by_cases hr : rm = 0
          · have HH := Lib.hid (show n = 2 ^ n.log2 ∧ fr = fr / n * n from ⟨hpw hq, hdv hr⟩)
            have hri : (rm : Int) = 0 := by omega
            have hrb : ((rm : Int) == 0) = true := by simpa using hr
            clear hpw hdv hq hr
            go_wp2_with fail
            go_meet
            case rel => exact ⟨true, by first | rfl | rw [hrb], fun _ => HH.out, rfl⟩
          · have hri : ¬ (rm : Int) = 0 := by omega
            have hrb : ((rm : Int) == 0) = false := by simpa using hr
            clear hpw hdv hq hr
            go_wp2_with fail
            go_meet
            case rel => exact ⟨false, by first | rfl | rw [hrb], fun h => absurd h (by decide), rfl⟩
        · have hqi : ¬ (q : Int) = 0 := by omega
          have hqb : ((q : Int) == 0) = false := by simpa using hq
          clear hpw hdv hq
          go_wp2_with fail
          go_meet
          case rel => exact ⟨false, by first | rfl | rw [hqb], fun h => absurd h (by decide), rfl⟩
      case rest =>
        obtain ⟨full, rfl, hfull, hwc⟩ := hcut
        subst hwc
        have hmx := HMx.out; have hto := HTo.out; have hle := HLe.out
        have hl20 : n.log2 ≤ 20 := by have := (Nat.log2_lt (n := n) (k := 21) (by omega)).2 (by omega); omega
        have hbit := bitLen_log2 n (by omega) (by omega)
        have hP0 : PT w base g ds v mv wc := PT.below HT.out (by rw [hRe]; exact hB)
        have hcl : ∀ w, Calls Tryd.prog 72 #[.int .u64 (n : Int)] w fun e w' => e = .returned (.int .i64 ((n.log2 : Int) + 1)) ∧ Below w.heap.size w w' := fun w =>
          (len_any (n : Int) w (by omega) (by omega)).mono fun e w' ⟨a, b⟩ => ⟨by rw [a, Int.toNat_natCast, hbit]; rfl, b ▸ Below.refl _ _⟩
        have hwl : IntKind.i64.wrap (n.log2 : Int) = (n.log2 : Int) := by apply IntWalk.i64_in <;> omega
        have hdl : fr / n ≤ fr := Nat.div_le_self _ _
        have hq1 : (fr : Int).tdiv (n : Int) = ((fr / n : Nat) : Int) := (Int.ofNat_tdiv _ _).symm
        have hq2 : (fr : Int) / (n : Int) = ((fr / n : Nat) : Int) := rfl
        have hn0 : ¬ (n : Int) = 0 := by omega
        have hn00 : ¬ n = 0 := by omega
        have HF := Lib.hid hfull
        have hlk := fun w0 mv1 (h : RootsAt w0 base ds mv1) => run_look w0 base ds mv1 h n.log2 (fr / n)
        have hput := fun w0 r (h : RootsAt w0 base ds (.map (some r))) (h1 : (fr / n + 1) * 2 ^ n.log2 ≤ ds.length) v hv => run_put w0 base ds r h n.log2 (fr / n) h1 v hv
        have HLK := Lib.hid hlk; have HPUT := Lib.hid hput
        clear hfull hlk hput hbit
        generalize fr / n = ix at *
        generalize n.log2 = l at *
        have hq3 : IntKind.i64.wrap (ix : Int) = (ix : Int) := by apply IntWalk.i64_in <;> omega
        have hwu : IntKind.u64.wrap (n : Int) = (n : Int) := by simp [IntKind.wrap, IntKind.bits, IntKind.signed]; omega
        clear hmx hto hle hdl
        go_upto_region 5 with (fail)
        go_cut [9] from 14 (fun v9 w' => ∃ b9, v9 = .pointer (some ⟨b9, 0, none⟩) ∧ Arr w' b9 110 [Value.int .i64 l, Value.int .i64 ix] ∧ wc.heap.size ≤ b9 ∧ Below wc.heap.size wc w')
        case first =>
          clear h1 h2 hn1 hl20
          refine wp_region_class 9 [8] [0, 1, 2, 3, 4, 5, 6, 7, 8] (Below wc.heap.size wc) (Stable.below wc) (Below.refl _ _).drew (by kernel_rfl) (by kernel_rfl) ?_
          simp only [opsOf, List.getElem?_cons_succ, List.getElem?_cons_zero, List.drop_succ_cons, List.drop_zero]
          refine wpL_val ?v2 rfl (by rfl) (fun wq hq => ?y2) ?z2
          case y2 => go_simp; with_reducible rfl
          try simp only [Act.put, List.setIfInBounds_toArray, List.set_cons_zero, List.set_cons_succ]
          refine wpL_val ?v3 rfl (by rfl) (fun wq hq => ?y3) ?z3
          case y3 => go_simp; with_reducible rfl
          try simp only [Act.put, List.setIfInBounds_toArray, List.set_cons_zero, List.set_cons_succ]
          refine wpL_val ?v4 rfl (by rfl) (fun wq hq => ?y4) ?z4
          case y4 => go_simp; exact hcl _
          try simp only [Act.put, List.setIfInBounds_toArray, List.set_cons_zero, List.set_cons_succ]
          refine wpL_val ?v5 rfl (by rfl) (fun wq hq => ?y5) ?z5
          case y5 => go_simp; with_reducible rfl
          try simp only [Act.put, List.setIfInBounds_toArray, List.set_cons_zero, List.set_cons_succ]
          refine wpL_val ?v6 rfl (by rfl) (fun wq hq => ?y6) ?z6
          case y6 => go_simp; with_reducible rfl
          try simp only [Act.put, List.setIfInBounds_toArray, List.set_cons_zero, List.set_cons_succ]
          refine wpL_val ?v7 rfl (by rfl) (fun wq hq => ?y7) ?z7
          case y7 => go_simp; with_reducible rfl
          try simp only [Act.put, List.setIfInBounds_toArray, List.set_cons_zero, List.set_cons_succ]
          refine wpL_val ?v8 rfl (by rfl) (fun wq hq => ?y8) ?z8
          case y8 => go_simp; with_reducible rfl
          try simp only [Act.put, List.setIfInBounds_toArray, List.set_cons_zero, List.set_cons_succ]
          refine wpL_val (.agg #[Value.int .i64 l, Value.int .i64 ix]) rfl (by rfl) (fun wq hq => quiet_build2 110 (.tmp 40) (.tmp 43) rfl _ _ rfl rfl _ (built_span l ix)) ?_
          try simp only [Act.put, List.setIfInBounds_toArray, List.set_cons_zero, List.set_cons_succ]
          refine wpL_new (fun g => .pointer (some ⟨g, 0, none⟩)) (.cells #[Value.int .i64 0, Value.int .i64 0] 110) rfl (by rfl) (Stable.below wc) (fun _ h => h) (fun wq hq => ?y10) (fun g0 hg0 => ?_)
          case y10 => exact run_al _ rfl 2 _ zero110
          try simp only [Act.put, List.setIfInBounds_toArray, List.set_cons_zero, List.set_cons_succ]
          refine wpL_nil ?_
          intro wt hwt
          have G0 : wc.heap.size ≤ g0 := by obtain ⟨wq, hq, rfl⟩ := hg0; exact hq.size
          go_wp2_with ((with_reducible refine at_st 110 (.tmp 9) (.tmp 44) ?_); refine wpList_store_row rfl 110 (.tmp 9) (.tmp 44) rfl g0 #[Value.int .i64 l, Value.int .i64 ix] rfl rfl 110 #[Value.int .i64 0, Value.int .i64 0] hwt.2.2 info110 rfl (one_two _ _) ?_)
          go_meet
          case rel => exact ⟨g0, rfl, Arr.setRow (l := [Value.int .i64 0, Value.int .i64 0]) hwt.2.2 _, G0, below_setRow hwt.1 G0 _⟩
        case rest =>
          obtain ⟨b9, rfl, hA9, hb9, hBc⟩ := hcut
          have hP1 := hP0.andBelow hBc
          have hA1 := hA.below hBc hA.lt
          have hgR : g < R := by have := HT.out.lt; omega
          have hb9R : R < b9 := by omega
          clear hP0 hA hB hb9 hBc hA0 hcl hwl hq1 hq2 hq3 hwu
          go_upto_if 45 with (fail)
          go_cut [] from 14 (fun w' => Below wc.heap.size wc w')
          case first =>
            obtain ⟨mv1, hT1, hBt1, hmv1⟩ := id hP1
            have hTA := hT1.arr
            have c1 := hTA.cell 1
            have hgl := hTA.lt
            simp only [List.getElem?_cons_succ, List.getElem?_cons_zero] at c1
            cases full with
            | false =>
              go_wp2_with fail
              go_meet
              case rel => exact Below.refl _ _
            | true =>
              have hfin := HF.out rfl
              have hseg : (ds.drop (ix * 2 ^ l)).take (2 ^ l) = seg ds fr to := by
                unfold seg
                rw [HTo.out, show fr + n - fr = n by omega, ← hfin.1, ← hfin.2]
              have hall := hT1.all
              have hsl := seg_length ds fr to (by have := HTo.out; omega) HLe.out
              have hdl := mroot_length (seg ds fr to) (seg_all hall fr to) (fun e => by rw [e] at hsl; have := HTo.out; simp at hsl; omega)
              have hlk := HLK.out wc mv1 hT1.roots
              rw [hseg] at hlk
              have HA9 := Lib.hid hA9; have HA1 := Lib.hid hA1; have HP1 := Lib.hid hP1
              clear hfin hseg hTA hT1 hBt1 hmv1 hall hsl hA9 hA1 hP1 h1 h2 hn1 hl20 hn00
              go_upto_region 7 with (fail)
              rcases hlk with hlk | ⟨hlk, hle2⟩
              · obtain ⟨lz, hZ, -, hzl, hzo⟩ := v8_list zd zd_len
                rw [hZ] at hlk
                have HI := Lib.hid (inf_size infD32 lz hzl); have HS := Lib.hid (st_size lz hzl); have HO := Lib.hid (all_oneCell_toArray hzo)
                have HK := Lib.hid hlk
                clear hZ hzl hzo hlk
                refine wp_region_all [9, 10] [0, 1, 2, 3, 4, 5, 6, 7, 8, 9, 10, 11] (Below wc.heap.size wc) (Stable.below wc) (Below.refl _ _).drew (by kernel_rfl) (by kernel_rfl) ?_
                simp only [opsOf, List.getElem?_cons_succ, List.getElem?_cons_zero, List.drop_succ_cons, List.drop_zero]
                refine wpL_val ?v13 rfl (by rfl) (fun wq hq => ?y13) ?z13
                case y13 => go_simp; with_reducible rfl
                try simp only [Act.put, List.setIfInBounds_toArray, List.set_cons_zero, List.set_cons_succ]
                refine wpL_val ?v14 rfl (by rfl) (fun wq hq => ?y14) ?z14
                case y14 => go_simp; with_reducible rfl
                try simp only [Act.put, List.setIfInBounds_toArray, List.set_cons_zero, List.set_cons_succ]
                refine wpL_val ?v15 rfl (by rfl) (fun wq hq => ?y15) ?z15
                case y15 => go_simp; with_reducible rfl
                try simp only [Act.put, List.setIfInBounds_toArray, List.set_cons_zero, List.set_cons_succ]
                refine wpL_val ?v16 rfl (by rfl) (fun wq hq => ?y16) ?z16
                case y16 => have c := (hq.cell (p := ⟨g, 1, none⟩) hgl).trans c1; go_simp; with_reducible rfl
                try simp only [Act.put, List.setIfInBounds_toArray, List.set_cons_zero, List.set_cons_succ]
                refine wpL_val (.agg [Value.int .i64 l, Value.int .i64 ix].toArray) rfl (by rfl) (fun wq hq => quiet_ld 110 _ rfl _ _ rfl [Value.int .i64 l, Value.int .i64 ix] _ (range_below HA9.out.range hq HA9.out.lt) span_under rfl info110) ?_
                try simp only [Act.put, List.setIfInBounds_toArray, List.set_cons_zero, List.set_cons_succ]
                refine wpL_val (.tuple #[.agg lz.toArray, .bool false]) rfl (by rfl) (fun wq hq => quiet_look 101 (.tmp 50) (.tmp 51) rfl mv1 (Sp l ix) rfl rfl (HK.out wq hq)) ?_
                try simp only [Act.put, List.setIfInBounds_toArray, List.set_cons_zero, List.set_cons_succ]
                refine wpL_val ?v19 rfl (by rfl) (fun wq hq => ?y19) ?z19
                case y19 => go_simp; with_reducible rfl
                try simp only [Act.put, List.setIfInBounds_toArray, List.set_cons_zero, List.set_cons_succ]
                refine wpL_val ?v20 rfl (by rfl) (fun wq hq => ?y20) ?z20
                case y20 => go_simp; with_reducible rfl
                try simp only [Act.put, List.setIfInBounds_toArray, List.set_cons_zero, List.set_cons_succ]
                refine wpL_val ?v21 rfl (by rfl) (fun wq hq => ?y21) ?z21
                case y21 => go_simp; with_reducible rfl
                try simp only [Act.put, List.setIfInBounds_toArray, List.set_cons_zero, List.set_cons_succ]
                refine wpL_new (fun g => .pointer (some ⟨g, 0, none⟩)) (.cells (List.replicate 32 (V8 0)).toArray 24) rfl (by rfl) (Stable.below wc) (fun _ h => h) (fun wq hq => ?y22) (fun g0 hg0 => ?_)
                case y22 => exact run_al _ rfl 32 _ zero24
                try simp only [Act.put, List.setIfInBounds_toArray, List.set_cons_zero, List.set_cons_succ]
                refine wpL_store rfl (by rfl) 24 (.tmp 10) (.tmp 53) rfl g0 lz.toArray rfl rfl 24 (List.replicate 32 (V8 0)).toArray (fun wq hq => hq.2.2) HI.out HS.out HO.out (Stable.below wc) (fun wq hq => below_setRow hq.1 (by obtain ⟨wz, hz, rfl⟩ := hg0; exact hz.size) _) ?_
                try simp only [Act.put, List.setIfInBounds_toArray, List.set_cons_zero, List.set_cons_succ]
                refine wpL_val ?v24 rfl (by rfl) (fun wq hq => ?y24) ?z24
                case y24 => go_simp; with_reducible rfl
                try simp only [Act.put, List.setIfInBounds_toArray, List.set_cons_zero, List.set_cons_succ]
                refine wpL_nil ?_
                intro wt hwt
                have G0 : wc.heap.size ≤ g0 := by obtain ⟨wq, hq, rfl⟩ := hg0; exact hq.size
                obtain ⟨hbt, -⟩ := stored_fin hwt G0
                go_wp2_with fail
                go_meet
                case rel => exact hbt
              · obtain ⟨lz, hZ, -, hzl, hzo⟩ := v8_list (mroot (seg ds fr to)) hdl
                rw [hZ] at hlk
                have HI := Lib.hid (inf_size infD32 lz hzl); have HS := Lib.hid (st_size lz hzl); have HO := Lib.hid (all_oneCell_toArray hzo)
                have HK := Lib.hid hlk; have HZ := Lib.hid hZ
                clear hZ hzl hzo hlk
                refine wp_region_all [9, 10] [0, 1, 2, 3, 4, 5, 6, 7, 8, 9, 10, 11] (Below wc.heap.size wc) (Stable.below wc) (Below.refl _ _).drew (by kernel_rfl) (by kernel_rfl) ?_
                simp only [opsOf, List.getElem?_cons_succ, List.getElem?_cons_zero, List.drop_succ_cons, List.drop_zero]
                refine wpL_val ?v27 rfl (by rfl) (fun wq hq => ?y27) ?z27
                case y27 => go_simp; with_reducible rfl
                try simp only [Act.put, List.setIfInBounds_toArray, List.set_cons_zero, List.set_cons_succ]
                refine wpL_val ?v28 rfl (by rfl) (fun wq hq => ?y28) ?z28
                case y28 => go_simp; with_reducible rfl
                try simp only [Act.put, List.setIfInBounds_toArray, List.set_cons_zero, List.set_cons_succ]
                refine wpL_val ?v29 rfl (by rfl) (fun wq hq => ?y29) ?z29
                case y29 => go_simp; with_reducible rfl
                try simp only [Act.put, List.setIfInBounds_toArray, List.set_cons_zero, List.set_cons_succ]
                refine wpL_val ?v30 rfl (by rfl) (fun wq hq => ?y30) ?z30
                case y30 => have c := (hq.cell (p := ⟨g, 1, none⟩) hgl).trans c1; go_simp; with_reducible rfl
                try simp only [Act.put, List.setIfInBounds_toArray, List.set_cons_zero, List.set_cons_succ]
                refine wpL_val (.agg [Value.int .i64 l, Value.int .i64 ix].toArray) rfl (by rfl) (fun wq hq => quiet_ld 110 _ rfl _ _ rfl [Value.int .i64 l, Value.int .i64 ix] _ (range_below HA9.out.range hq HA9.out.lt) span_under rfl info110) ?_
                try simp only [Act.put, List.setIfInBounds_toArray, List.set_cons_zero, List.set_cons_succ]
                refine wpL_val (.tuple #[.agg lz.toArray, .bool true]) rfl (by rfl) (fun wq hq => quiet_look 101 (.tmp 50) (.tmp 51) rfl mv1 (Sp l ix) rfl rfl (HK.out wq hq)) ?_
                try simp only [Act.put, List.setIfInBounds_toArray, List.set_cons_zero, List.set_cons_succ]
                refine wpL_val ?v33 rfl (by rfl) (fun wq hq => ?y33) ?z33
                case y33 => go_simp; with_reducible rfl
                try simp only [Act.put, List.setIfInBounds_toArray, List.set_cons_zero, List.set_cons_succ]
                refine wpL_val ?v34 rfl (by rfl) (fun wq hq => ?y34) ?z34
                case y34 => go_simp; with_reducible rfl
                try simp only [Act.put, List.setIfInBounds_toArray, List.set_cons_zero, List.set_cons_succ]
                refine wpL_val ?v35 rfl (by rfl) (fun wq hq => ?y35) ?z35
                case y35 => go_simp; with_reducible rfl
                try simp only [Act.put, List.setIfInBounds_toArray, List.set_cons_zero, List.set_cons_succ]
                refine wpL_new (fun g => .pointer (some ⟨g, 0, none⟩)) (.cells (List.replicate 32 (V8 0)).toArray 24) rfl (by rfl) (Stable.below wc) (fun _ h => h) (fun wq hq => ?y36) (fun g0 hg0 => ?_)
                case y36 => exact run_al _ rfl 32 _ zero24
                try simp only [Act.put, List.setIfInBounds_toArray, List.set_cons_zero, List.set_cons_succ]
                refine wpL_store rfl (by rfl) 24 (.tmp 10) (.tmp 53) rfl g0 lz.toArray rfl rfl 24 (List.replicate 32 (V8 0)).toArray (fun wq hq => hq.2.2) HI.out HS.out HO.out (Stable.below wc) (fun wq hq => below_setRow hq.1 (by obtain ⟨wz, hz, rfl⟩ := hg0; exact hz.size) _) ?_
                try simp only [Act.put, List.setIfInBounds_toArray, List.set_cons_zero, List.set_cons_succ]
                refine wpL_val ?v38 rfl (by rfl) (fun wq hq => ?y38) ?z38
                case y38 => go_simp; with_reducible rfl
                try simp only [Act.put, List.setIfInBounds_toArray, List.set_cons_zero, List.set_cons_succ]
                refine wpL_nil ?_
                intro wt hwt
                have G0 : wc.heap.size ≤ g0 := by obtain ⟨wq, hq, rfl⟩ := hg0; exact hq.size
                obtain ⟨hbt, hAt⟩ := stored_fin hwt G0
                have HAt := Lib.hid hAt
                have HAR := Lib.hid (HA1.out.below hbt HA1.out.lt)
                clear hAt hwt
                go_wp2_with (first | ((with_reducible refine at_ld 24 (.tmp 10) ?_); refine wpList_load_row rfl 24 (.tmp 10) rfl g0 rfl 24 lz.toArray (0, 0) _ HAt.out hu.out rfl HI.out ?_) | ((with_reducible refine at_st 24 (.tmp 6) (.tmp 56) ?_); refine wpList_store_row rfl 24 (.tmp 6) (.tmp 56) rfl R lz.toArray rfl rfl 24 (List.replicate 32 (V8 0)).toArray HAR.out HI.out HS.out HO.out ?_))
                exact bodyPost_ret (v := .agg lz.toArray) (results_cell_row rfl _ _ R 24 _ _ _ rfl (setRow_heap _ _ _ _ _ _ HAR.out) hu.out rfl HI.out) rfl ⟨by rw [HZ.out], ((HP1.out.andBelow hbt).setOwn HT.out (by omega) _ HAR.out)⟩
          case rest =>
            have hP2 := hP1.andBelow hcut
            have hA2 := hA1.below hcut hA1.lt
            have hA92 := hA9.below hcut hA9.lt
            have hmx := HMx.out; have hto := HTo.out; have hle := HLe.out; have hN := HN.out
            clear hP1 hA1 hA9 hcut HLK
            have hl := left_any n h2 (by omega)
            have hlp1 := lp_pos n
            have hlp2 := lp_lt n h2
            have hnode := seg_node ds fr to (by omega) hle
            rw [show to - fr = n by omega] at hnode
            have hall := HT.out.all
            have ih1 := fun w mv1 hT => ih fr (lp n) (fr + lp n) w v mv1 (by omega) hlp1 rfl (by omega) hT
            have ih2 := fun w mv1 hT => ih (fr + lp n) (n - lp n) to w v mv1 (by omega) (by omega) (by omega) hle hT
            have hs1 := seg_length ds fr (fr + lp n) (by omega) (by omega)
            have hs2 := seg_length ds (fr + lp n) to (by omega) hle
            have hla := mroot_length (seg ds fr (fr + lp n)) (seg_all hall _ _) (fun e => by rw [e] at hs1; simp at hs1; omega)
            have hlb := mroot_length (seg ds (fr + lp n) to) (seg_all hall _ _) (fun e => by rw [e] at hs2; simp at hs2; omega)
            generalize lp n = k at *
            have hadd : IntKind.i64.wrap ((fr : Int) + (k : Int)) = ((fr + k : Nat) : Int) := by rw [show ((fr : Int) + (k : Int)) = ((fr + k : Nat) : Int) by omega]; apply IntWalk.i64_in <;> omega
            generalize fr + k = mid at *
            have hnd := node_la (mroot (seg ds fr mid)) (mroot (seg ds mid to)) hla hlb (Dv (mroot (seg ds fr mid))) (Dv (mroot (seg ds mid to))) rfl rfl
            have hdlen := Sha.node_length (mroot (seg ds fr mid)) (mroot (seg ds mid to))
            rw [← hnode] at hnd hdlen
            have HSEG := Lib.hid (show (ds.drop fr).take n = seg ds fr to by unfold seg; rw [hto, show fr + n - fr = n by omega])
            generalize mroot (seg ds fr mid) = ra at *
            generalize mroot (seg ds mid to) = rb at *
            generalize hdd : mroot (seg ds fr to) = d at *
            have HDD := Lib.hid hdd
            obtain ⟨ld, hD, -, hdl, hdo⟩ := v8_list d hdlen
            have HD := Lib.hid hD
            have HI := Lib.hid (inf_size infD32 ld hdl); have HS := Lib.hid (st_size ld hdl); have HO := Lib.hid (all_oneCell_toArray hdo)
            have HL := Lib.hid (show (Tryd.prog.info? 24).map (·.size) = some ld.length by rw [hdl]; exact infD32)
            obtain ⟨mv2, hT2⟩ := hP2.tr
            have HND := Lib.hid hnd; have HIH1 := Lib.hid ih1; have HIH2 := Lib.hid ih2; have HP2 := Lib.hid hP2
            clear hmx hto hle hN hnode hall hs1 hs2 hla hlb hlp1 hlp2 hnd hdlen hdd hD hdl hdo ih ih1 ih2 hP2 h1 hn1 hl20 hn00 hn0
            go_upto_region 11 with (go_at_call 66; refine (hl _).mono ?_; rintro e w1 ⟨rfl, rfl⟩)
            go_wp2_with fail
            refine (HIH1.out _ mv2 hT2).mono ?_
            rintro e w3 ⟨rfl, hP3⟩
            have hA3 := hP3.arr hT2 hA2 (by omega)
            have hA93 := hP3.arr hT2 hA92 (by omega)
            obtain ⟨mv3, hT3⟩ := hP3.tr
            have HP3 := Lib.hid (HP2.out.trans1 hT2 hP3)
            clear hP3 HP2 hA2 hA92 hT2
            go_wp2_with fail
            refine (HIH2.out _ mv3 hT3).mono ?_
            rintro e w4 ⟨rfl, hP4⟩
            have hA4 := hP4.arr hT3 hA3 (by omega)
            have hA94 := hP4.arr hT3 hA93 (by omega)
            obtain ⟨mv4, hT4⟩ := hP4.tr
            have HP4 := Lib.hid (HP3.out.trans1 hT3 hP4)
            clear hP4 HP3 hA3 hA93 hT3
            go_wp2_with fail
            refine (HND.out _ hT4.kt).mono ?_
            rintro e w5 ⟨rfl, hb5⟩
            rw [HD.out]
            have hv5 := one_var w5 24 ld
            have hA5 := hA4.below hb5 hA4.lt
            have hA95 := hA94.below hb5 hA94.lt
            have HP5 := Lib.hid (HP4.out.andBelow hb5)
            have hR5 := hA4.lt
            have hs5 := hb5.size
            have V5 := Lib.hid hv5
            clear hv5 hA4 hA94 HP4 hT4 hb5
            go_upto_if 72 with ((with_reducible refine at_st 24 (.tmp 13) (.tmp 71) ?_); refine wpList_store_row rfl 24 (.tmp 13) (.tmp 71) rfl w5.heap.size ld.toArray rfl rfl 24 _ V5.out.1 HI.out HS.out HO.out ?_)
            have ⟨_, hA13, hB6, hz6⟩ := V5.out
            clear V5
            change Code.wp _ _ _ _ ((w5.alloc (Z32 24)).setRow w5.heap.size ld.toArray)
            generalize (w5.alloc (Z32 24)).setRow w5.heap.size ld.toArray = w6 at *
            have hA6 := hA5.below hB6 hA5.lt
            have hA96 := hA95.below hB6 hA95.lt
            have hP6 := HP5.out.andBelow hB6
            have h13 : R < w5.heap.size := by omega
            generalize w5.heap.size = b13 at *
            clear hA5 hA95 HP5 hB6 hs5 hR5
            go_cut [] from 14 (fun w' => PT w base g ds v mv w' ∧ Arr w' R 24 (List.replicate 32 (V8 0)) ∧ Arr w' b13 24 ld)
            case first =>
              clear hz6
              obtain ⟨mv6, hT6⟩ := hP6.tr
              cases full with
              | false =>
                go_wp2_with fail
                go_meet
                case rel => exact ⟨hP6, hA6, hA13⟩
              | true =>
                have hfin := HF.out rfl
                have hle2 : (ix + 1) * 2 ^ l ≤ ds.length := by
                  have h3 := HLe.out; have h4 := HTo.out
                  rw [← hfin.1, Nat.succ_mul, ← hfin.2]; omega
                have hval : d = mroot ((ds.drop (ix * 2 ^ l)).take (2 ^ l)) := by rw [← hfin.1, ← hfin.2, HSEG.out, HDD.out]
                have HLE2 := Lib.hid hle2; have HVAL := Lib.hid hval
                have HP6 := Lib.hid hP6
                have hget := hT6.roots
                clear hfin hle2 hval hP6
                rcases hT6.roots with hmv | ⟨b, es, c, hmv, -⟩
                · subst hmv
                  have hnew := PT.newMap hT6
                  have heq := eql_map_nil w6
                  have hmm := @run_makeMap Tryd.prog 101 w6
                  have c1 : w6.cell? ⟨g, 1, none⟩ = some (.map none) := hT6.arr.cell 1
                  have c2 : (w6.alloc (.map #[] 0)).cell? ⟨g, 1, none⟩ = some (.map none) := (hT6.arr.alloc _).cell 1
                  have f2 : (w6.alloc (.map #[] 0)).frozen? ⟨g, 1, none⟩ = false := (hT6.arr.alloc _).frozen 1
                  have HT6 := Lib.hid hT6; have HA6 := Lib.hid hA6; have HA96 := Lib.hid hA96; have HA136 := Lib.hid hA13; have HNEW := Lib.hid hnew
                  clear hget hT6 hA6 hA96 hA13 hnew
                  go_upto_region 15 with (fail)
                  have hnew := HNEW.out
                  clear HNEW c1 c2 f2
                  have hp7 := hnew.1.arr HT6.out HA6.out (by omega)
                  have hp97 := hnew.1.arr HT6.out HA96.out (by omega)
                  have hp137 := hnew.1.arr HT6.out HA136.out (by omega)
                  have hP7 := HP6.out.trans1 HT6.out hnew.1
                  obtain ⟨mv7, hT7⟩ := hnew.1.tr
                  have hcv := hnew.2
                  generalize (w6.alloc (.map #[] 0)).setCell ⟨g, 1, none⟩ (.map (some w6.heap.size)) = w7 at *
                  have e7 : mv7 = .map (some w6.heap.size) := by
                    have h1 := hT7.arr
                    unfold Arr at h1 hcv
                    rw [h1] at hcv
                    simpa using hcv
                  subst e7
                  generalize w6.heap.size = b at *
                  clear HP6 hnew hcv HT6 HA6 HA96 HA136
                  have c1 : w7.cell? ⟨g, 1, none⟩ = some (.map (some b)) := hT7.arr.cell 1
                  have HT7 := Lib.hid hT7; have HP7 := Lib.hid hP7; have HA7 := Lib.hid hp7; have HA97 := Lib.hid hp97; have HA137 := Lib.hid hp137
                  have hgl := hT7.lt
                  clear hT7 hP7 hp7 hp97 hp137
                  refine wp_region_class 6 [] [0, 1, 2, 3, 4, 5] (Below w7.heap.size w7) (Stable.below w7) (Below.refl _ _).drew (by kernel_rfl) (by kernel_rfl) ?_
                  simp only [opsOf, List.getElem?_cons_succ, List.getElem?_cons_zero, List.drop_succ_cons, List.drop_zero]
                  refine wpL_val ?v41 rfl (by rfl) (fun wq hq => ?y41) ?z41
                  case y41 => go_simp; with_reducible rfl
                  try simp only [Act.put, List.setIfInBounds_toArray, List.set_cons_zero, List.set_cons_succ]
                  refine wpL_val ?v42 rfl (by rfl) (fun wq hq => ?y42) ?z42
                  case y42 => go_simp; with_reducible rfl
                  try simp only [Act.put, List.setIfInBounds_toArray, List.set_cons_zero, List.set_cons_succ]
                  refine wpL_val ?v43 rfl (by rfl) (fun wq hq => ?y43) ?z43
                  case y43 => go_simp; with_reducible rfl
                  try simp only [Act.put, List.setIfInBounds_toArray, List.set_cons_zero, List.set_cons_succ]
                  refine wpL_val ?v44 rfl (by rfl) (fun wq hq => ?y44) ?z44
                  case y44 => have c := (hq.cell (p := ⟨g, 1, none⟩) hgl).trans c1; go_simp; with_reducible rfl
                  try simp only [Act.put, List.setIfInBounds_toArray, List.set_cons_zero, List.set_cons_succ]
                  refine wpL_val (.agg [Value.int .i64 l, Value.int .i64 ix].toArray) rfl (by rfl) (fun wq hq => quiet_ld 110 _ rfl _ _ rfl [Value.int .i64 l, Value.int .i64 ix] _ (range_below HA97.out.range hq HA97.out.lt) span_under rfl info110) ?_
                  try simp only [Act.put, List.setIfInBounds_toArray, List.set_cons_zero, List.set_cons_succ]
                  refine wpL_val (.agg ld.toArray) rfl (by rfl) (fun wq hq => quiet_ld 24 _ rfl _ _ rfl ld _ (range_below HA137.out.range hq HA137.out.lt) hu.out rfl HL.out) ?_
                  try simp only [Act.put, List.setIfInBounds_toArray, List.set_cons_zero, List.set_cons_succ]
                  refine wpL_nil ?_
                  intro wt hwt
                  have hT8 := HT7.out.below hwt
                  obtain ⟨ob, hrun, hroots⟩ := HPUT.out wt b hT8.roots HLE2.out (.agg ld.toArray) (by rw [← HVAL.out, HD.out])
                  have hP8 := (HP7.out.andBelow hwt).trans1 hT8 (PT.putMap hT8 ob hroots)
                  have hq8 := (PT.putMap hT8 ob hroots).arr hT8 (HA7.out.below hwt HA7.out.lt) (by omega)
                  have hq138 := (PT.putMap hT8 ob hroots).arr hT8 (HA137.out.below hwt HA137.out.lt) (by omega)
                  have HRUN := Lib.hid hrun
                  generalize ({ wt with heap := wt.heap.setIfInBounds b ob } : World) = w9 at *
                  have HP8 := Lib.hid hP8; have HQ8 := Lib.hid hq8; have HQ138 := Lib.hid hq138
                  clear hT8 hP8 hq8 hq138 hrun hroots
                  go_wp2_with ((with_reducible refine at_mu 101 (.tmp 85) (.tmp 86) (.tmp 87) ?_); refine wpList_mu rfl 101 (.tmp 85) (.tmp 86) (.tmp 87) rfl (.map (some b)) (Sp l ix) (.agg ld.toArray) rfl rfl rfl w9 HRUN.out ?_)
                  go_meet
                  case rel => exact ⟨HP8.out, HQ8.out, HQ138.out⟩
                · subst hmv
                  have heq := eql_map_some b w6
                  have c1 : w6.cell? ⟨g, 1, none⟩ = some (.map (some b)) := hT6.arr.cell 1
                  have hP7 := HP6.out
                  have HT6 := Lib.hid hT6; have HA6 := Lib.hid hA6; have HA96 := Lib.hid hA96; have HA136 := Lib.hid hA13; have HP7 := Lib.hid hP7
                  clear hget hT6 hA6 hA96 hA13 hP7 HP6
                  go_upto_region 15 with (fail)
                  have hT7 := HT6.out; have hp7 := HA6.out; have hp97 := HA96.out; have hp137 := HA136.out; have hP7 := HP7.out
                  clear HT6 HA6 HA96 HA136 HP7 c1
                  generalize w6 = w7 at *
                  have c1 : w7.cell? ⟨g, 1, none⟩ = some (.map (some b)) := hT7.arr.cell 1
                  have HT7 := Lib.hid hT7; have HP7 := Lib.hid hP7; have HA7 := Lib.hid hp7; have HA97 := Lib.hid hp97; have HA137 := Lib.hid hp137
                  have hgl := hT7.lt
                  clear hT7 hP7 hp7 hp97 hp137
                  refine wp_region_class 6 [] [0, 1, 2, 3, 4, 5] (Below w7.heap.size w7) (Stable.below w7) (Below.refl _ _).drew (by kernel_rfl) (by kernel_rfl) ?_
                  simp only [opsOf, List.getElem?_cons_succ, List.getElem?_cons_zero, List.drop_succ_cons, List.drop_zero]
                  refine wpL_val ?v49 rfl (by rfl) (fun wq hq => ?y49) ?z49
                  case y49 => go_simp; with_reducible rfl
                  try simp only [Act.put, List.setIfInBounds_toArray, List.set_cons_zero, List.set_cons_succ]
                  refine wpL_val ?v50 rfl (by rfl) (fun wq hq => ?y50) ?z50
                  case y50 => go_simp; with_reducible rfl
                  try simp only [Act.put, List.setIfInBounds_toArray, List.set_cons_zero, List.set_cons_succ]
                  refine wpL_val ?v51 rfl (by rfl) (fun wq hq => ?y51) ?z51
                  case y51 => go_simp; with_reducible rfl
                  try simp only [Act.put, List.setIfInBounds_toArray, List.set_cons_zero, List.set_cons_succ]
                  refine wpL_val ?v52 rfl (by rfl) (fun wq hq => ?y52) ?z52
                  case y52 => have c := (hq.cell (p := ⟨g, 1, none⟩) hgl).trans c1; go_simp; with_reducible rfl
                  try simp only [Act.put, List.setIfInBounds_toArray, List.set_cons_zero, List.set_cons_succ]
                  refine wpL_val (.agg [Value.int .i64 l, Value.int .i64 ix].toArray) rfl (by rfl) (fun wq hq => quiet_ld 110 _ rfl _ _ rfl [Value.int .i64 l, Value.int .i64 ix] _ (range_below HA97.out.range hq HA97.out.lt) span_under rfl info110) ?_
                  try simp only [Act.put, List.setIfInBounds_toArray, List.set_cons_zero, List.set_cons_succ]
                  refine wpL_val (.agg ld.toArray) rfl (by rfl) (fun wq hq => quiet_ld 24 _ rfl _ _ rfl ld _ (range_below HA137.out.range hq HA137.out.lt) hu.out rfl HL.out) ?_
                  try simp only [Act.put, List.setIfInBounds_toArray, List.set_cons_zero, List.set_cons_succ]
                  refine wpL_nil ?_
                  intro wt hwt
                  have hT8 := HT7.out.below hwt
                  obtain ⟨ob, hrun, hroots⟩ := HPUT.out wt b hT8.roots HLE2.out (.agg ld.toArray) (by rw [← HVAL.out, HD.out])
                  have hP8 := (HP7.out.andBelow hwt).trans1 hT8 (PT.putMap hT8 ob hroots)
                  have hq8 := (PT.putMap hT8 ob hroots).arr hT8 (HA7.out.below hwt HA7.out.lt) (by omega)
                  have hq138 := (PT.putMap hT8 ob hroots).arr hT8 (HA137.out.below hwt HA137.out.lt) (by omega)
                  have HRUN := Lib.hid hrun
                  generalize ({ wt with heap := wt.heap.setIfInBounds b ob } : World) = w9 at *
                  have HP8 := Lib.hid hP8; have HQ8 := Lib.hid hq8; have HQ138 := Lib.hid hq138
                  clear hT8 hP8 hq8 hq138 hrun hroots
                  go_wp2_with ((with_reducible refine at_mu 101 (.tmp 85) (.tmp 86) (.tmp 87) ?_); refine wpList_mu rfl 101 (.tmp 85) (.tmp 86) (.tmp 87) rfl (.map (some b)) (Sp l ix) (.agg ld.toArray) rfl rfl rfl w9 HRUN.out ?_)
                  go_meet
                  case rel => exact ⟨HP8.out, HQ8.out, HQ138.out⟩
            case rest =>
              obtain ⟨hP7, hA7, hA137⟩ := hcut
              have HA7 := Lib.hid hA7; have HA137 := Lib.hid hA137; have HP7 := Lib.hid hP7
              clear hP7 hA7 hA137 hA6 hA96 hA13 hP6
              go_wp2_with (first | ((with_reducible refine at_ld 24 (.tmp 13) ?_); refine wpList_load_row rfl 24 (.tmp 13) rfl b13 rfl 24 ld.toArray (0, 0) _ HA137.out hu.out rfl HI.out ?_) | ((with_reducible refine at_st 24 (.tmp 6) (.tmp 88) ?_); refine wpList_store_row rfl 24 (.tmp 6) (.tmp 88) rfl R ld.toArray rfl rfl 24 (List.replicate 32 (V8 0)).toArray HA7.out HI.out HS.out HO.out ?_))
              exact bodyPost_ret (v := .agg ld.toArray) (results_cell_row rfl _ _ R 24 _ _ _ rfl (setRow_heap _ _ _ _ _ _ HA7.out) hu.out rfl HI.out) rfl ⟨by rw [HDD.out, HD.out], HP7.out.setOwn HT.out (by omega) _ HA7.out⟩
end Go.Proofs.YteehpfccegnjjaaDoor
