/-
  The contracts of the law's Leaves and grown.
-/
import Derived.Test.YteehpfccegnjjaaDoorInc
namespace Go.Proofs.YteehpfccegnjjaaDoor
open Go Go.RowKit
def leafOf (s : UInt8) (i : Nat) : List UInt8 := [s, 0, 0, 0, 0, UInt8.ofNat i, 0, 0, 0, 0, 0, 0, 0, 0, 0, 0, 0, 0, 0, 0, 0, 0, 0, 0, 0, 0, 0, 0, 0, 0, 0, 7]
def leaves (n s : UInt8) : List (List UInt8) := (List.range (n.toNat % 41)).map (leafOf s)
theorem leaves_length (n s : UInt8) : (leaves n s).length = n.toNat % 41 := by simp [leaves]
theorem leaves_all (n s : UInt8) : ∀ d ∈ leaves n s, d.length = 32 := fun d hd => by
  obtain ⟨i, _, rfl⟩ := List.mem_map.1 hd
  rfl
def leafV (s b : Int) : List Value := [.int .u8 s, .int .u8 0, .int .u8 0, .int .u8 0, .int .u8 0, .int .u8 b, .int .u8 0, .int .u8 0, .int .u8 0, .int .u8 0, .int .u8 0, .int .u8 0, .int .u8 0, .int .u8 0, .int .u8 0, .int .u8 0, .int .u8 0, .int .u8 0, .int .u8 0, .int .u8 0, .int .u8 0, .int .u8 0, .int .u8 0, .int .u8 0, .int .u8 0, .int .u8 0, .int .u8 0, .int .u8 0, .int .u8 0, .int .u8 0, .int .u8 0, .int .u8 7]
theorem leafV_is (s : UInt8) (i : Nat) (h : i < 256) : leafV s.toNat i = (leafOf s i).map V8 := by
  simp [leafV, leafOf, V8]
  omega
theorem built_leaf (s b : Int) : Tryd.prog.built 23 [(0, .int .u8 s), (5, .int .u8 b), (31, .int .u8 7)] = some (leafV s b).toArray := by kernel_rfl
theorem wpList_bd3 {P : Program} {ops : Array Oper} {rest : List Oper} {o : Oper} {a : Act} {w : World} {Q : Exit → Act → World → Prop} (hg : o.guard = none) (t : TypeId) (i j k : Nat) (x y z : Operand) (ho : o.op = .build t #[(i, x), (j, y), (k, z)]) (u v r : Value)
    (hx : a.eval x = u) (hy : a.eval y = v) (hz : a.eval z = r) (cells : Array Value) (hb : P.built t [(i, u), (j, v), (k, r)] = some cells) (h : wpList P ops Q rest (a.put o.dst (.agg cells)) w) : wpList P ops Q (o :: rest) a w :=
  wpList_plain hg fun _ hK => by
    have hbp : P.built t ((#[(i, x), (j, y), (k, z)] : Array (Nat × Operand)).map fun (i, x) => (i, a.eval x)).toList = some cells := by
      rw [Array.toList_map]
      show P.built t [(i, a.eval x), (j, a.eval y), (k, a.eval z)] = _
      rw [hx, hy, hz, hb]
    unfold Oper.wp execOp
    simp only [ho, Sem.run_bind, run_build w t _ _ hbp, Result.andThen_ok]
    exact hK _ _ h
theorem leaves_snoc (s : UInt8) (k : Nat) : (List.range (k + 1)).map (leafOf s) = (List.range k).map (leafOf s) ++ [leafOf s k] := by rw [List.range_succ, List.map_append]; rfl
set_option maxRecDepth 100000 in
set_option linter.unusedSimpArgs false in
set_option maxHeartbeats 1000000 in
theorem leaves_any (n s : UInt8) (w : World) :
    Calls Tryd.prog 28 #[.int .u8 n.toNat, .int .u8 s.toNat] w fun e w' => ∃ v', e = .returned v' ∧ Digs w' v' (leaves n s) ∧ Below w.heap.size w w' := by
  have hleaves : leaves n s = (List.range (n.toNat % 41)).map (leafOf s) := rfl
  have hall := leaves_all n s
  have hmod : (wrap64 (n.toNat : Int)).tmod 41 = ((n.toNat % 41 : Nat) : Int) := by rw [wrap64_nat _ (by have := n.toNat_lt; omega)]; exact (Int.ofNat_tmod _ _).symm
  have hc41 : n.toNat % 41 < 41 := Nat.mod_lt _ (by omega)
  generalize leaves n s = LS at *
  generalize n.toNat % 41 = cnt at *
  generalize ((n.toNat : Nat) : Int) = ni at *
  have HL := Lib.hid hleaves
  clear hleaves
  go_enter Tryd.func28, Tryd.ntmps28
  go_wp2_with fail
  go_loopw [5, 6] (fun v i wr => ∃ k : Nat, k ≤ cnt ∧ i = .int .i64 k ∧ DMine w 23 ((List.range k).map (leafOf s)) v wr) (fun _ i _ => cnt - (intOf i).toNat)
  case atStart => exact ⟨0, by omega, rfl, by simpa using DMine.nil w _⟩
  case round =>
    obtain ⟨k, hk, rfl, hR⟩ := hrel
    have hlk : ((List.range k).map (leafOf s)).length = k := by simp
    obtain ⟨a2, c2, rfl⟩ := hR.2.shape
    have hO := hR.2
    have hs := hR.1.size
    by_cases hlt : k < cnt
    · have hkc : ¬ (cnt : Int) ≤ (k : Int) := by omega
      have hwi : IntKind.u8.wrap (k : Int) = (k : Int) := wrap_u8 k (by omega)
      have hlv := leafV_is s k (by omega)
      have hbl := built_leaf (s.toNat : Int) (k : Int)
      have hll : (leafV (s.toNat : Int) (k : Int)).length = 32 := rfl
      have hlo : ∀ v ∈ leafV (s.toNat : Int) (k : Int), v.oneCell' = true := by rw [hlv]; intro v hv; obtain ⟨x, _, rfl⟩ := List.mem_map.1 hv; rfl
      have HLV := Lib.hid hlv
      clear hlv
      generalize leafV (s.toNat : Int) (k : Int) = ld at *
      have hsz : ∀ v ∈ ([.agg ld.toArray] : List Value), v.cells.size = 32 := by intro v hv; simp at hv; subst hv; simpa [Value.cells] using hll
      have HBL := Lib.hid hbl
      clear hbl
      generalize hq : (List.range k).map (leafOf s) = q at *
      rw [hlk] at hO hR ⊢
      have HR := Lib.hid hR; have HQ := Lib.hid hq
      clear hR hq hall
      go_wp2_with (first | ((with_reducible refine at_bd 23 #[(0, .tmp 15), (5, .tmp 17), (31, .const (.int .u8 7))] ?_); go_must (refine wpList_bd3 rfl 23 0 5 31 (.tmp 15) (.tmp 17) (.const (.int .u8 7)) rfl _ _ _ rfl rfl rfl ld.toArray HBL.out ?_)) | ((with_reducible refine at_bs _ _ #[(0, .tmp 18)] ?_); go_must (refine wpList_bs rfl 22 23 1 _ rfl [.agg ld.toArray] rfl hsz rfl (by decide) (by decide) Tryd.underlying22 i32R ?_); rw [one_flat]) | ((with_reducible refine at_app (.tmp 14) (.tmp 19) ?_); go_must (refine wpList_app32 rfl (.tmp 14) (.tmp 19) 22 rfl w.heap.size 23 i32R Tryd.underlying22 _ _ _ rfl (hO.alloc _) ⟨wr.heap.size, 0, none⟩ 1 ld rfl hll (news_row _ _ _) hlo ?_ ?_ ?_); omega; (simp; omega); intro v3 w3 hA; have hR3 := HR.out.more hlk.symm (grownBy_alloc _ _) hA HLV.out))
      go_roundw
      case rel => exact ⟨k + 1, by omega, by go_num, by rw [leaves_snoc, HQ.out]; exact hR3⟩
      case measure => simp [intOf]; omega
    · obtain rfl : k = cnt := by omega
      have hdg := hR.2.digs (by rw [← HL.out]; exact hall)
      rw [hlk] at hdg ⊢
      rw [← HL.out] at hdg
      have hB := hR.below
      clear hR hO
      have HDG := Lib.hid hdg
      clear hdg
      go_wp2_with fail
      go_ret
      exact ⟨_, rfl, HDG.out, hB⟩
set_option maxRecDepth 100000 in
set_option linter.unusedSimpArgs false in
set_option maxHeartbeats 1000000 in
theorem grown_any (ds : List (List UInt8)) (v : Value) (w : World) (hmax : ds.length < 1000) (hV : Digs w v ds) (hK : KT w) :
    Calls Tryd.prog 29 #[v] w fun e w' => ∃ g u, e = .returned (.tuple #[.pointer (some ⟨g, 0, none⟩), .bool true]) ∧ Tr w' w.heap.size g ds u (.map none) ∧ Below w.heap.size w w' := by
  obtain ⟨av, cv, rfl⟩ := hV.shape
  have HV := Lib.hid hV; have HK := Lib.hid hK; have HM := Lib.hid hmax
  clear hV hK hmax
  go_enter Tryd.func29, Tryd.ntmps29
  go_wp2_with fail
  refine (new_any _).mono ?_
  rintro e w1 ⟨⟨mv, rfl, hT1, rfl⟩, hb1⟩
  have HT1 := Lib.hid hT1; have HB1 := Lib.hid hb1
  clear hT1 hb1
  generalize hB : w.heap.size = B at *
  go_wp2_with fail
  go_loopw [5] (fun i wr => ∃ k : Nat, k ≤ ds.length ∧ i = .int .i64 k ∧ TreeAt wr B B (ds.take k) (.map none) ∧ Below B w wr) (fun i _ => ds.length - (intOf i).toNat)
  case atStart => exact ⟨0, by omega, rfl, by simpa using HT1.out, HB1.out⟩
  case round =>
    obtain ⟨k, hk, rfl, hT, hBr⟩ := hrel
    by_cases hlt : k < ds.length
    · obtain ⟨g, o, cap, hv, hcap, hg, hr⟩ := HV.out.pos (by omega)
      simp only [Value.slice.injEq] at hv
      obtain ⟨rfl, -, rfl⟩ := hv
      have hr1 := range_below (hr k hlt) hBr (by omega)
      have hd : (ds.getD k []).length = 32 := getD_mem_32 ds HV.out.all k hlt
      have hsn : ds.take (k + 1) = ds.take k ++ [ds.getD k []] := by rw [List.take_succ_eq_append_getElem hlt, List.getD_eq_getElem?_getD, List.getElem?_eq_getElem hlt]; rfl
      generalize ds.getD k [] = d at *
      obtain ⟨ld, hD, hdm, hdl, hdo⟩ := v8_list d hd
      rw [← hdm] at hr1
      have happ := append_la wr B B (ds.take k) (.map none) hT d hd _ hD (by rw [List.length_take]; have := HM.out; omega)
      have HR := Lib.hid hr1; have hu := Lib.hid Tryd.underlying23
      have HL := Lib.hid (show (Tryd.prog.info? 23).map (·.size) = some ld.length by rw [hdl]; exact infR32)
      have HSN := Lib.hid hsn
      have hBr' := Lib.hid hBr
      clear hr hr1 hD hdm hdl hdo hd hT hsn hcap hg hBr
      go_wp2_with ((with_reducible refine at_ld 23 (.tmp 16) ?_); refine wpList_load_mid rfl 23 (.tmp 16) rfl g (o + k * 32) rfl ld _ HR.out hu.out rfl HL.out ?_)
      refine happ.mono ?_
      rintro e w2 ⟨rfl, hT2, hb2⟩
      have hT2 := Lib.hid hT2; have hb2 := Lib.hid (hBr'.out.trans hb2)
      clear happ
      go_wp2_with fail
      have hkb : k < 1000 := by have := HM.out; omega
      go_roundw
      case rel => exact ⟨k + 1, by omega, by rw [show wrap64 ((k : Int) + 1) = ((k + 1 : Nat) : Int) by rw [show ((k : Int) + 1) = ((k + 1 : Nat) : Int) by omega]; exact wrap64_nat _ (by omega)], by rw [HSN.out]; exact hT2.out, hb2.out⟩
      case measure =>
        rw [show wrap64 ((k : Int) + 1) = ((k + 1 : Nat) : Int) by rw [show ((k : Int) + 1) = ((k + 1 : Nat) : Int) by omega]; exact wrap64_nat _ (by omega)]
        simp [intOf]; omega
    · obtain rfl : k = ds.length := by omega
      rw [List.take_length] at hT
      have hlen := tlen_any wr B B ds (.map none) hT
      obtain ⟨u, hA, hO, hn⟩ := hT.val
      have hTr : Tr wr B B ds u (.map none) := ⟨hT.all, hA, hO, hn, hT.ge, .inl rfl, HK.out.below hBr (by omega), by rw [← hB]; exact HK.out.1⟩
      have HTr := Lib.hid hTr; have HBr := Lib.hid hBr
      clear hT hA hO hn hTr hBr
      go_wp2_with fail
      refine hlen.mono ?_
      rintro e w2 ⟨rfl, rfl⟩
      go_wp2_with fail
      go_ret2
      exact ⟨B, u, rfl, by rw [hB]; exact HTr.out, by rw [hB]; exact HBr.out⟩
end Go.Proofs.YteehpfccegnjjaaDoor
