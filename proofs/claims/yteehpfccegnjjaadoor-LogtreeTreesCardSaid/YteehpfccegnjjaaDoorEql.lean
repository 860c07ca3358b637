/-
  The comparison of two digests.
-/
import Derived.Test.YteehpfccegnjjaaDoorTree
import Derived.ChangeKeysEq
namespace Go.Proofs.YteehpfccegnjjaaDoor
open Go Go.RowKit
theorem v8_inj : ∀ (a b : List UInt8), a.map V8 = b.map V8 → a = b
  | [], [], _ => rfl
  | [], _ :: _, h => by simp at h
  | _ :: _, [], h => by simp at h
  | x :: a, y :: b, h => by
    simp only [List.map_cons, List.cons.injEq, V8, Value.int.injEq, true_and] at h
    rw [v8_inj a b h.2, UInt8.toNat_inj.1 (Int.ofNat.inj h.1)]
section
variable {P : Program} (w : World)
theorem run_items (e : TypeId) (he : P.underlying e = some (.int .u8)) (a b : List UInt8) : ∀ (is : List Nat), (∀ i ∈ is, i < a.length ∧ i < b.length) →
    (Op.eqItems 9999 e 1 (a.map V8).toArray (b.map V8).toArray is).run P w = .ok (is.all fun i => a[i]? == b[i]?) w
  | [], _ => by simp [Op.eqItems]
  | i :: is, h => by
    obtain ⟨h1, h2⟩ := h i (by simp)
    have hp : P.plainKey e = true := by simp [Program.plainKey, he]
    have e1 : (a.map V8).toArray[i * 1]? = some (V8 a[i]) := by simp [h1]
    have e2 : (b.map V8).toArray[i * 1]? = some (V8 b[i]) := by simp [h2]
    simp only [Op.eqItems, Sem.run_bind, run_part_plain w hp e1, run_part_plain w hp e2, Result.andThen_ok]
    have he2 : (Op.equalIn 9999 e (V8 a[i]) (V8 b[i])).run P w = .ok ((a[i].toNat : Int) == (b[i].toNat : Int)) w := run_equalIn_int w 9998 e .u8 .u8 _ _ he
    rw [he2, List.all_cons]
    simp only [Result.andThen_ok]
    have hb : ((a[i].toNat : Int) == (b[i].toNat : Int)) = (a[i]? == b[i]?) := by
      rw [List.getElem?_eq_getElem h1, List.getElem?_eq_getElem h2]
      rw [Bool.eq_iff_iff]
      simp only [beq_iff_eq, Option.some.injEq]
      exact ⟨fun h => UInt8.toNat_inj.1 (Int.ofNat.inj h), fun h => by rw [h]⟩
    rw [hb]
    cases hq : (a[i]? == b[i]?)
    · simp
    · simpa using run_items e he a b is fun j hj => h j (by simp [hj])
theorem run_eql32 (t e : TypeId) (i : TypeInfo) (hu : P.underlying t = some (.array 32 e)) (he : P.underlying e = some (.int .u8)) (hi : P.info? e = some i) (hc : P.cellsOf e = 1)
    (a b : List UInt8) (ha : a.length = 32) (hb : b.length = 32) : (Op.equalIn 10000 t (Dv a) (Dv b)).run P w = .ok (decide (a = b)) w := by
  have h := run_equalIn_array (P := P) w 9999 (t := t) (e := e) (n := 32) (i := i) (a.map V8).toArray (b.map V8).toArray hu hi
  rw [hc, run_items w e he a b (List.range 32) (fun i hi => by simp at hi; omega)] at h
  refine h.trans ?_
  congr 1
  rw [Bool.eq_iff_iff, List.all_eq_true, decide_eq_true_eq]
  constructor
  · intro h
    apply List.ext_getElem?
    intro k
    by_cases hk : k < 32
    · simpa using h k (by simpa using hk)
    · rw [List.getElem?_eq_none (by omega), List.getElem?_eq_none (by omega)]
  · rintro rfl k _
    simp
end
theorem info_u8 : ∃ i, Tryd.prog.info? 5 = some i := by
  have h := info5
  cases hi : Tryd.prog.info? 5 with
  | none => simp [hi] at h
  | some i => exact ⟨i, rfl⟩
theorem eqlD (a b : List UInt8) (ha : a.length = 32) (hb : b.length = 32) (va vb : Value) (hA : Dv a = va) (hB : Dv b = vb) (w : World) : (Op.equalIn 10000 24 va vb).run Tryd.prog w = .ok (decide (a = b)) w := by
  obtain ⟨i, hi⟩ := info_u8
  rw [← hA, ← hB]
  exact run_eql32 w _ 5 i Tryd.underlying24 Tryd.underlying5 hi (by kernel_rfl) a b ha hb
theorem eqlR (a b : List UInt8) (ha : a.length = 32) (hb : b.length = 32) (va vb : Value) (hA : Dv a = va) (hB : Dv b = vb) (w : World) : (Op.equalIn 10000 23 va vb).run Tryd.prog w = .ok (decide (a = b)) w := by
  obtain ⟨i, hi⟩ := info_u8
  rw [← hA, ← hB]
  exact run_eql32 w _ 5 i Tryd.underlying23 Tryd.underlying5 hi (by kernel_rfl) a b ha hb
end Go.Proofs.YteehpfccegnjjaaDoor
