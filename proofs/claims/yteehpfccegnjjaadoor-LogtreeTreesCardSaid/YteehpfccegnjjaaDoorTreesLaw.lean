/-
  LogtreeTrees: Leaf, Root, Include and Extend of a tree of up to 40 leaves return the digests and the paths of the reference, or the specified error, for any numbers. The tied card; no condition besides the row's own (the table of SHA-256 holds what the program's text lays).
-/
import Derived.Test.YteehpfccegnjjaaDoorTrees
import Derived.Test.YteehpfccegnjjaaDoorFrame
namespace Go.Proofs.YteehpfccegnjjaaDoor
open Go Go.RowKit Go.ChangeShapes Go.WideShapes Go.ChangeAt

theorem cells_at2 : Tryd.prog.cellsOf 63 = 2 := by kernel_rfl
set_option maxRecDepth 100000 in
theorem open_at2 {H : Type} {enc : TypeId × Value → H} {W : World} {v : Value} {d : DataW H} {p : List MemPlace} (h : DataW.Trod enc Tryd.prog W 0 (fun _ => true) true 63 v d p) {base : Nat} (hv : Value.okWide Tryd.prog W .any base 63 v) :
    ∃ a b : Int, v = .agg #[.int .i64 a, .int .i64 b] := by
  obtain ⟨fuel, hf⟩ := h
  simp only [Value.okWide, Tryd.underlying63] at hv
  obtain ⟨cs, rfl, _, _⟩ := hv
  obtain ⟨l, rfl⟩ : ∃ l : List Value, cs = l.toArray := ⟨cs.toList, by simp⟩
  have hf' : DataW.trod enc Tryd.prog W 0 (fun _ => true) true fuel 63 l = some (d, p) := hf
  obtain ⟨xs, n, _, _, hl, hlen, hfl⟩ := DataW.trod_array Tryd.underlying63 hf'
  rw [cells_at2] at hl
  match xs, hlen, hfl with
  | [y0, y1], _, hfl =>
    rw [cells_int] at hfl
    have t0 : DataW.trod enc Tryd.prog W 0 (fun _ => true) true n 3 ((l.drop (0 * 1)).take 1) = some y0 := hfl 0 (by omega)
    have t1 : DataW.trod enc Tryd.prog W 0 (fun _ => true) true n 3 ((l.drop (1 * 1)).take 1) = some y1 := hfl 1 (by omega)
    obtain ⟨i, hi, _, _⟩ := DataW.trod_int Tryd.underlying3 t0
    obtain ⟨m, hm, _, _⟩ := DataW.trod_int Tryd.underlying3 t1
    match l, hl with
    | [u0, u1], _ =>
      simp at hi hm
      subst hi hm
      exact ⟨i, m, rfl⟩
set_option linter.unusedVariables false in
set_option maxRecDepth 100000 in
theorem trees_lifted (os : Os) (started : os.Started) (H : Type) (enc : TypeId × Value → H) :
    ReturnsInHanded {} Tryd.checked os 9 .any (fun w args => (Rows.logtreeTreesSpec.pre enc Tryd.prog Tryd.f9 [] false w args ∧ laidMetH Tryd.prog laidRow w) ∧ sizedMet enc Tryd.prog Tryd.f9 (OpenSpec.ofChange Rows.logtreeTreesSpec) false w args)
      (Rows.logtreeTreesSpec.post enc Tryd.prog Tryd.f9 false true false false) := by
  refine returnsInHanded_of_change_and (C := Tryd.checked) (X := fun w _ => laidMetH Tryd.prog laidRow w) (fun _ _ _ hh h => h.of_heap hh) own_knob started (by kernel_rfl) Tryd.func9
    (ChangeSpec.witness_at (enc := enc) (C := Tryd.checked) (os := os) (X := fun w _ => laidMetH Tryd.prog laidRow w) false (laidWorld os) #[.int .u8 0, .int .u8 0, .agg #[.int .i64 0, .int .i64 0]] 8 rfl (by kernel_rfl) (by kernel_rfl) (by kernel_rfl) (by kernel_rfl) (by kernel_rfl) (laid_met os _)) ?_
  intro W base args ds gs before hval0 hW _ _ hL _
  have hval : ∀ (j : Nat) t v, Tryd.f9.params[j]? = some t → args[j]? = some v → Value.okWide Tryd.prog W .any base t v := hval0
  have hW' := hW
  obtain ⟨p, q, hA0, hV, rfl, hfz, hnd⟩ := hW
  have hA : DataW.TrodAll enc Tryd.prog W 0 (fun _ => true) true Tryd.f9.params.toList args.toList ds p := hA0
  rw [Tryd.params9] at hA hval
  obtain ⟨v0, vs0, d0, ds0, p0, q0, hargs, rfl, rfl, h0, r0⟩ := trodAll_cons hA
  obtain ⟨v1, vs1, d1, ds1, p1, q1, rfl, rfl, rfl, h1, r1⟩ := trodAll_cons r0
  obtain ⟨v2, vs2, d2, ds2, p2, q2, rfl, rfl, rfl, h2, r2⟩ := trodAll_cons r1
  obtain ⟨rfl, rfl, rfl⟩ := trodAll_nil r2
  obtain rfl : args = #[v0, v1, v2] := by cases args; simp_all
  obtain ⟨rfl, rfl⟩ := trodVars_none hV
  clear hA0 hval0
  simp only [List.append_nil] at hW'
  have hlt : ∀ x ∈ p0 ++ (p1 ++ (p2)), x.block < W.heap.size := fun x hx => by simpa using hW'.lt x (by simpa using hx)
  have hk0 := h0
  have hk1 := h1
  have hk2 := h2
  obtain ⟨n0, rfl, rfl, rfl, w0⟩ := open_int Tryd.underlying5 (hval 0 5 v0 rfl rfl) h0
  obtain ⟨n1, rfl, rfl, rfl, w1⟩ := open_int Tryd.underlying5 (hval 1 5 v1 rfl rfl) h1
  obtain ⟨a2, b2, rfl⟩ := open_at2 h2 (hval 2 63 v2 rfl rfl)
  refine (trees_law n0 n1 a2 b2 W w0 w1 (kt_of_laid hL)).mono fun e W' ⟨he, hb⟩ => ?_
  subst he
  refine ⟨_, rfl, _, _, _, [], [] ++ ([] ++ (p2 ++ ([]))), [], hW', trodAll_mk1 (shut_bool Tryd.underlying4 true), ?_, rfl, hb.frame _, fun h => by cases h⟩
  exact (trodAll_cons_mk (shut_int Tryd.underlying5 w0) (trodAll_cons_mk (shut_int Tryd.underlying5 w1) (trodAll_cons_mk (Below.trod laid_out (by kernel_rfl) (of_decide_eq_true (by kernel_rfl)) hk2 hb (fun x hx => hlt x (by simp [hx]))) trodAll_mk0)))

theorem trees_over : Rows.LogtreeTreesSaid :=
  OpenClaim.holds_of_wide 9 Tryd.f9 rfl rfl rfl rfl rfl rfl rfl ⟨rfl, rfl, rfl, rfl, rfl⟩ rfl rfl rfl rfl rfl (by kernel_rfl) Tryd.func9 (by kernel_rfl)
    (of_decide_eq_true (by kernel_rfl)) (by unfold Func.isWrapper; first | (rw [if_pos (by decide +kernel)]; kernel_rfl) | (rw [if_neg (by decide +kernel)]; exact ⟨rfl, rfl⟩))
    (fun os started H enc _ => trees_lifted os started H enc)
theorem trees_holds : Rows.LogtreeTreesCardSaid :=
  Claim7.holds_tied_plain_at .later [] [.data] true (true, "d82d070d758510dec79c2988874e28ba849c88df919d3737119f6e4b7c021663") false
    trees_over (fun _ h => by cases h) (by kernel_rfl) (fun _ h => by cases h) logtreeTrees_row_tie rfl ⟨rfl, rfl⟩ (by kernel_rfl) rfl
    (fun f fn hf hfn => by
      obtain rfl : f = 9 := Option.some.inj ((show Tryd.prog.funcNamed "replevin/replevinlaw06.LogtreeTrees" = some 9 by kernel_rfl).symm.trans hf) |>.symm
      obtain rfl : fn = Tryd.f9 := (Option.some.inj (Tryd.func9.symm.trans hfn)).symm
      exact ⟨by kernel_rfl, fun j t ht => by
        rw [Tryd.params9] at ht
        have h3 : t = 5 ∨ t = 63 := by
          rcases j with _ | _ | _ | j <;> simp at ht <;> simp [ht]
        rcases h3 with rfl | rfl
        · exact (show Tryd.prog.wantsStandIn 5 = false by kernel_rfl)
        · exact (show Tryd.prog.wantsStandIn 63 = false by kernel_rfl)⟩)
    (by kernel_rfl)
#print axioms trees_holds
end Go.Proofs.YteehpfccegnjjaaDoor
