/-
  From the row's condition to the walks' facts: the laid table, and the arguments.
-/
import Derived.Test.YteehpfccegnjjaaDoorKnown
import Derived.Test.YteehpfccegnjjaaDoorCards
import Derived.Test.YteehpfccegnjjaaDoorTie
import Derived.WalkKit
import Derived.ProofKit
import Derived.OpenShut
import Derived.ChangeSame
import Derived.ChangeVars
import Derived.JoinedOf
import Derived.RowKitTokens
import Derived.LaidLaws
import Derived.LaidHandle
import Derived.Lib.LaidTab
import Derived.Deep.Slices
import Derived.Carry
import Derived.SevenTiedAt
namespace Go.Proofs.YteehpfccegnjjaaDoor
open Go Go.RowKit Go.ChangeShapes Go.WideShapes Go.ChangeAt

theorem own_knob : ownKnob Tryd.prog.godebug = none := by kernel_rfl
theorem laid_out : laidOutB Tryd.prog = true := by kernel_rfl
theorem gTab : Tryd.prog.globalNamed "replevin/sha256.constants" = some 0 := by kernel_rfl
theorem gTabType : (Tryd.prog.globals[0]?).map (·.type) = some 116 := by kernel_rfl
theorem cells_u32 : Tryd.prog.cellsOf 96 = 1 := by kernel_rfl
theorem cells_tab : Tryd.prog.cellsOf 116 = 64 := by kernel_rfl
theorem cells_u8 : Tryd.prog.cellsOf 5 = 1 := by kernel_rfl
theorem cells_claim : Tryd.prog.cellsOf 40 = 35 := by kernel_rfl
theorem cells_int : Tryd.prog.cellsOf 3 = 1 := by kernel_rfl
theorem cells_slice : Tryd.prog.cellsOf 22 = 1 := by kernel_rfl
theorem cells_dig : Tryd.prog.cellsOf 23 = 32 := by kernel_rfl
def tabZ : List Int := Sha.K.map fun x => (x.toNat : Int)
def laidRow : List (String × DataW Unit) := [("replevin/sha256.constants", Rows.laid_replevin_sha256_constants)]
theorem laid_is : laidRow = [("replevin/sha256.constants", Lib.tabData .u32 tabZ)] := by kernel_rfl
theorem kt_of_laid {W : World} (h : laidMetH Tryd.prog laidRow W) : KT W := by
  have h' : laidMet Tryd.prog laidRow W := h
  rw [laid_is] at h'
  have ht := Lib.tabIs_of_head gTab gTabType Tryd.underlying116 Tryd.underlying96 cells_u32 cells_tab h'
  have hc : ∀ i, i < 64 → W.cell? ⟨0, i, none⟩ = some (V32 (Sha.K.getD i 0)) := fun i hi => by
    have := ht.cell gTab i (by show i < tabZ.length; unfold tabZ; rw [List.length_map]; exact hi)
    rw [this]
    unfold tabZ V32
    simp [List.getD_eq_getElem?_getD, List.getElem?_map]
    cases Sha.K[i]? <;> simp
  exact ⟨World.block_lt_of_cell? W ⟨0, 0, none⟩ (by rw [hc 0 (by omega)]), hc⟩
/-- The settled world, the table holding what its initialiser lays: the witness. -/
noncomputable def laidWorld (os : Os) : World :=
  { World.holding Tryd.prog os ⟨#[], #[], []⟩ with heap := (World.holding Tryd.prog os ⟨#[], #[], []⟩).heap.modify 0 fun
      | .cells _ t frozen => .cells (tabZ.map fun z => Value.int .u32 z).toArray t frozen
      | o => o }
theorem laid_met (os : Os) (args : Array Value) : laidMetH Tryd.prog laidRow ((laidWorld os).forCall (fun _ _ => 0) ⟨#[], args, []⟩).memory :=
  (show laidMet Tryd.prog laidRow ((laidWorld os).forCall (fun _ _ => 0) ⟨#[], args, []⟩).memory from laidMet_of_run' 8 (by kernel_rfl) (by kernel_rfl))

theorem v8_of (z : Int) (h0 : 0 ≤ z) (h1 : z < 256) : V8 (UInt8.ofNat z.toNat) = .int .u8 z := by
  have e : ((UInt8.ofNat z.toNat).toNat : Int) = z := by simp; omega
  unfold V8
  rw [e]
section
variable {H : Type} {enc : TypeId × Value → H} {W : World}
/-- An array of bytes that reads holds bytes. -/
theorem open_arr {base : Nat} {sp : Nat → Bool} {held : Bool} {fuel : Nat} {t : TypeId} {cs : List Value} {x : DataW H × List MemPlace} (ht : Tryd.prog.underlying t = some (.array 32 5)) (hct : Tryd.prog.cellsOf t = 32)
    (h : DataW.trod enc Tryd.prog W base sp held fuel t cs = some x) : ∃ d : List UInt8, cs = d.map V8 ∧ d.length = 32 := by
  cases fuel with
  | zero => simp [DataW.trod] at h
  | succ fuel =>
    simp only [DataW.trod, ht, cells_u8, Nat.mul_one] at h
    split at h
    · rename_i hl
      obtain ⟨xs, hm, hx⟩ := Option.map_eq_some_iff.1 h
      have hl32 : cs.length = 32 := by rw [hl, hct]
      have hi : ∀ i, i < 32 → ∃ z : Int, cs[i]? = some (.int .u8 z) ∧ (Lit.int .u8 z).wf = true := fun i hi => by
        obtain ⟨b, hb, hf⟩ := Lib.mapM_at hm i i (by simp [hi])
        obtain ⟨z, hc, rfl, hw⟩ := DataW.trod_int Tryd.underlying5 hf
        refine ⟨z, ?_, hw⟩
        have := congrArg (·[0]?) hc
        simpa [List.getElem?_take, List.getElem?_drop] using this
      refine ⟨cs.map fun v => match v with | .int _ z => UInt8.ofNat z.toNat | _ => 0, ?_, by simpa using hl32⟩
      apply List.ext_getElem?
      intro i
      by_cases h32 : i < 32
      · obtain ⟨z, hz, hw⟩ := hi i h32
        have hz2 : 0 ≤ z ∧ z < 256 := by
          simp [Lit.wf, IntKind.min, IntKind.max, IntKind.signed, IntKind.bits] at hw
          omega
        rw [hz]
        simp only [List.getElem?_map, hz, Option.map_some]
        rw [v8_of z hz2.1 hz2.2]
      · rw [List.getElem?_eq_none (by omega), List.getElem?_eq_none (by simp; omega)]
    · cases h
theorem open_digs {v : Value} {d : DataW H} {p : List MemPlace} (h : DataW.Trod enc Tryd.prog W 0 (fun _ => true) true 22 v d p) (hv : ∃ a l c, v = .slice a l c) :
    ∃ ds, Digs W v ds := by
  obtain ⟨a0, l0, c0, rfl⟩ := hv
  obtain ⟨fuel, hf⟩ := h
  rcases Deep.open_slice Tryd.underlying22 hf with ⟨hcs, _⟩ | ⟨a, len, cap, m, n, D, Pl, hcs, _, hl, hm, hmm, hx, hel⟩
  · simp [Value.cells] at hcs
    obtain ⟨rfl, rfl, rfl⟩ := hcs
    exact ⟨[], by simp, .inl ⟨rfl, none, 0, rfl⟩⟩
  · simp [Value.cells] at hcs
    obtain ⟨rfl, rfl, rfl⟩ := hcs
    simp only [if_true] at hmm
    subst hmm
    rw [cells_dig] at hel hx
    by_cases h0 : l0 = 0
    · subst h0
      exact ⟨[], by simp, .inl ⟨rfl, _, _, rfl⟩⟩
    · have hd : ∀ i, i < l0 → ∃ d : List UInt8, d.length = 32 ∧ ∀ j, j < 32 → W.cell? (a.add (i * 32 + j)) = some (V8 (d.getD j 0)) := fun i hi => by
        obtain ⟨cs', hc, ht⟩ := hel i (by omega)
        obtain ⟨d, rfl, hd⟩ := open_arr Tryd.underlying23 cells_dig ht
        refine ⟨d, hd, fun j hj => ?_⟩
        unfold World.cells? at hc
        rw [if_pos (Nat.zero_le _)] at hc
        obtain ⟨b, hb, hcell⟩ := Lib.mapM_at hc j j (by simp [hj])
        rw [Deep.add_add] at hcell
        rw [hcell, ← hb]
        simp [hd, hj]
      obtain ⟨f, hf⟩ := Deep.choose_lt hd
      obtain ⟨b, off, spot⟩ := a
      have hspot : spot = none := by
        have h1 := (hf 0 (by omega)).2 0 (by omega)
        simpa [Addr.add] using World.cell?_spot h1
      subst hspot
      have hb : b < W.heap.size := by
        have h1 := (hf 0 (by omega)).2 0 (by omega)
        simp [Addr.add] at h1
        exact World.block_lt_of_cell? W ⟨b, off, none⟩ (by rw [h1])
      refine ⟨(List.range l0).map f, ?_, .inr ⟨b, off, m, by simp, by simpa using hl, hb, fun j hj i u hu => ?_⟩⟩
      · intro d hd
        obtain ⟨i, hi, rfl⟩ := List.mem_map.1 hd
        exact (hf i (List.mem_range.1 hi)).1
      · simp at hj
        have hfj := hf j hj
        have e : ((List.range l0).map f).getD j [] = f j := by simp [List.getD_eq_getElem?_getD, hj]
        rw [e] at hu
        have hi : i < 32 := by
          have := (List.getElem?_eq_some_iff.1 hu).1
          rw [List.length_map, hfj.1] at this
          exact this
        have h1 := hfj.2 i hi
        rw [Addr.add_lit] at h1
        rw [show off + j * 32 + i = off + (j * 32 + i) by omega, h1]
        rw [← hu]
        simp [hfj.1, hi]
set_option maxRecDepth 100000 in
/-- An array of bytes that came in. -/
theorem open_dig {v : Value} {d : DataW H} {p : List MemPlace} {sp : Nat → Bool} {held : Bool} (h : DataW.Trod enc Tryd.prog W 0 sp held 23 v d p) {base : Nat} (hv : Value.okWide Tryd.prog W .any base 23 v) : ∃ x : List UInt8, v = Dv x ∧ x.length = 32 := by
  obtain ⟨fuel, hf⟩ := h
  obtain ⟨x, hx, hl⟩ := open_arr Tryd.underlying23 cells_dig hf
  simp only [Value.okWide, Tryd.underlying23] at hv
  obtain ⟨cs, rfl, _, _⟩ := hv
  refine ⟨x, ?_, hl⟩
  have : cs.toList = x.map V8 := hx
  show Value.agg cs = .agg (x.map V8).toArray
  rw [← this]
set_option maxRecDepth 100000 in
/-- A claim that came in. -/
theorem open_claim {v : Value} {d : DataW H} {p : List MemPlace} (h : DataW.Trod enc Tryd.prog W 0 (fun _ => true) true 40 v d p) {base : Nat} (hv : Value.okWide Tryd.prog W .any base 40 v) :
    ∃ (x : List UInt8) (i n : Int) (u : Value) (L : List (List UInt8)), v = .agg (x.map V8 ++ [Value.int .i64 i, Value.int .i64 n, u]).toArray ∧ x.length = 32 ∧ Digs W u L := by
  obtain ⟨fuel, hf⟩ := h
  simp only [Value.okWide, Tryd.underlying40] at hv
  obtain ⟨cs, rfl, _, _⟩ := hv
  obtain ⟨l, rfl⟩ : ∃ l : List Value, cs = l.toArray := ⟨cs.toList, by simp⟩
  have hf' : DataW.trod enc Tryd.prog W 0 (fun _ => true) true fuel 40 l = some (d, p) := hf
  obtain ⟨xs, n, _, _, hl, hlen, hfl⟩ := DataW.trod_struct Tryd.underlying40 hf'
  rw [cells_claim] at hl
  match xs, hlen, hfl with
  | [y0, y1, y2, y3], _, hfl =>
    have t0 : DataW.trod enc Tryd.prog W 0 (fun _ => true) true n 23 ((l.drop 0).take (Tryd.prog.cellsOf 23)) = some y0 := hfl 0 _ rfl
    have t1 : DataW.trod enc Tryd.prog W 0 (fun _ => true) true n 3 ((l.drop 32).take (Tryd.prog.cellsOf 3)) = some y1 := hfl 1 _ rfl
    have t2 : DataW.trod enc Tryd.prog W 0 (fun _ => true) true n 3 ((l.drop 33).take (Tryd.prog.cellsOf 3)) = some y2 := hfl 2 _ rfl
    have t3 : DataW.trod enc Tryd.prog W 0 (fun _ => true) true n 22 ((l.drop 34).take (Tryd.prog.cellsOf 22)) = some y3 := hfl 3 _ rfl
    rw [cells_dig] at t0
    rw [cells_int] at t1 t2
    rw [cells_slice] at t3
    obtain ⟨x, hx, hxl⟩ := open_arr Tryd.underlying23 cells_dig t0
    obtain ⟨i, hi, _, _⟩ := DataW.trod_int Tryd.underlying3 t1
    obtain ⟨m, hm, _, _⟩ := DataW.trod_int Tryd.underlying3 t2
    have hu : ∃ a c k, (l.drop 34).take 1 = [Value.slice a c k] := by
      rcases Deep.open_slice Tryd.underlying22 t3 with ⟨hcs, _⟩ | ⟨a, len, cap, _, _, _, _, hcs, _⟩
      · exact ⟨_, _, _, hcs⟩
      · exact ⟨_, _, _, hcs⟩
    obtain ⟨a, c, k, hu⟩ := hu
    rw [hu] at t3
    obtain ⟨L, hL⟩ := open_digs (v := .slice a c k) (d := y3.1) (p := y3.2) ⟨_, t3⟩ ⟨_, _, _, rfl⟩
    refine ⟨x, i, m, .slice a c k, L, ?_, hxl, hL⟩
    have e : l = l.take 32 ++ ((l.drop 32).take 1 ++ ((l.drop 33).take 1 ++ (l.drop 34).take 1)) := by
      have h1 : (l.drop 34).take 1 = l.drop 34 := List.take_of_length_le (by simp; omega)
      have h2 : (l.drop 33).take 1 ++ l.drop 34 = l.drop 33 := by
        have := List.take_append_drop 1 (l.drop 33)
        rwa [List.drop_drop] at this
      have h3 : (l.drop 32).take 1 ++ l.drop 33 = l.drop 32 := by
        have := List.take_append_drop 1 (l.drop 32)
        rwa [List.drop_drop] at this
      rw [h1, h2, h3, List.take_append_drop]
    rw [hi, hm, hu, show l.take 32 = x.map V8 from hx] at e
    rw [e]
    rfl
end
end Go.Proofs.YteehpfccegnjjaaDoor
