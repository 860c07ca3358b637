/-
  The comparison of two pairs of digests.
-/
import Derived.Test.YteehpfccegnjjaaDoorCollP
import Derived.Laws.StructEq
namespace Go.Proofs.YteehpfccegnjjaaDoor
open Go Go.RowKit
section
variable {P : Program} (w : World)
theorem run_itemsd (d : Nat) (e : TypeId) (he : P.underlying e = some (.int .u8)) (a b : List UInt8) : ∀ (is : List Nat), (∀ i ∈ is, i < a.length ∧ i < b.length) →
    (Op.eqItems (d + 1) e 1 (a.map V8).toArray (b.map V8).toArray is).run P w = .ok (is.all fun i => a[i]? == b[i]?) w
  | [], _ => by simp [Op.eqItems]
  | i :: is, h => by
    obtain ⟨h1, h2⟩ := h i (by simp)
    have hp : P.plainKey e = true := by simp [Program.plainKey, he]
    have e1 : (a.map V8).toArray[i * 1]? = some (V8 a[i]) := by simp [h1]
    have e2 : (b.map V8).toArray[i * 1]? = some (V8 b[i]) := by simp [h2]
    simp only [Op.eqItems, Sem.run_bind, run_part_plain w hp e1, run_part_plain w hp e2, Result.andThen_ok]
    have he2 : (Op.equalIn (d + 1) e (V8 a[i]) (V8 b[i])).run P w = .ok ((a[i].toNat : Int) == (b[i].toNat : Int)) w := run_equalIn_int w d e .u8 .u8 _ _ he
    rw [he2, List.all_cons]
    simp only [Result.andThen_ok]
    have hb : ((a[i].toNat : Int) == (b[i].toNat : Int)) = (a[i]? == b[i]?) := by
      rw [List.getElem?_eq_getElem h1, List.getElem?_eq_getElem h2]
      rw [Bool.eq_iff_iff]
      simp only [beq_iff_eq, Option.some.injEq]
      exact ⟨fun h => UInt8.toNat_inj.1 (Int.ofNat.inj h), fun h => by rw [h]⟩
    rw [hb]
    cases hq : (a[i]? == b[i]?)
    · simp
    · simpa using run_itemsd d e he a b is fun j hj => h j (by simp [hj])
theorem run_eql32d (d : Nat) (t e : TypeId) (i : TypeInfo) (hu : P.underlying t = some (.array 32 e)) (he : P.underlying e = some (.int .u8)) (hi : P.info? e = some i) (hc : P.cellsOf e = 1)
    (a b : List UInt8) (ha : a.length = 32) (hb : b.length = 32) : (Op.equalIn (d + 2) t (Dv a) (Dv b)).run P w = .ok (decide (a = b)) w := by
  have h := run_equalIn_array (P := P) w (d + 1) (t := t) (e := e) (n := 32) (i := i) (a.map V8).toArray (b.map V8).toArray hu hi
  rw [hc, run_itemsd w d e he a b (List.range 32) (fun i hi => by simp at hi; omega)] at h
  refine h.trans ?_
  congr 1
  rw [Bool.eq_iff_iff, List.all_eq_true, decide_eq_true_eq]
  constructor
  · intro h
    apply List.ext_getElem?
    intro k
    by_cases hk : k < 32
    · simpa using h k (by simpa using hk)
    · rw [List.getElem?_eq_none (by omega), List.getElem?_eq_none (by omega)]
  · rintro rfl k _
    simp
theorem run_part32 (T e : TypeId) (i : TypeInfo) (hu : P.underlying T = some (.array 32 e)) (hi : P.info? T = some i) (hs : P.cellsOf T = 32) (x y z : List Value) (off : Nat) (hx : x.length = off) (hy : y.length = 32) :
    (part T (x ++ y ++ z).toArray off).run P w = .ok (.agg y.toArray) w := by
  have e1 : List.drop off (x ++ (y ++ z)) = y ++ z := by rw [← hx]; simp
  have e2 : List.take 32 (y ++ z) = y := by rw [← hy]; simp
  simp [part, isAgg, run_underlying hu, Sem.run_bind, run_sizeOf w hi, hs, e1, e2]
end
theorem pair_fields : (Tryd.prog.fieldsOf 93).toList.map (fun f => (decide (f.name ≠ "_"), f.type, f.offset)) = [(true, 24, 0), (true, 24, 32)] := by kernel_rfl
theorem pair_under : Tryd.prog.underlying 93 = some (.struct (Tryd.prog.fieldsOf 93)) := by kernel_rfl
theorem info_dig : ∃ i, Tryd.prog.info? 24 = some i := by
  have h := infD32
  cases hi : Tryd.prog.info? 24 with
  | none => rw [hi] at h; cases h
  | some i => exact ⟨i, rfl⟩
theorem cells_sum : Tryd.prog.cellsOf 24 = 32 := by kernel_rfl
theorem two_map {α β : Type} {l : List α} {f : α → β} {x y : β} (h : l.map f = [x, y]) : ∃ a b, l = [a, b] ∧ f a = x ∧ f b = y := by
  match l, h with
  | [a, b], h =>
    simp only [List.map_cons, List.map_nil, List.cons.injEq, and_true] at h
    exact ⟨a, b, rfl, h.1, h.2⟩
  | [], h => simp at h
  | [_], h => simp at h
  | _ :: _ :: _ :: _, h => simp at h
theorem eqFields_pair {P : Program} (w : World) (T e : TypeId) (f g : Field) (i j : TypeInfo) (n1 : f.name ≠ "_") (n2 : g.name ≠ "_") (t1 : f.type = T) (t2 : g.type = T) (o1 : f.offset = 0) (o2 : g.offset = 32)
    (hu : P.underlying T = some (.array 32 e)) (hj : P.info? T = some j) (hs : P.cellsOf T = 32) (he : P.underlying e = some (.int .u8)) (hi : P.info? e = some i) (hce : P.cellsOf e = 1)
    (a b c d : List UInt8) (ha : a.length = 32) (hb : b.length = 32) (hc : c.length = 32) (hd : d.length = 32) :
    (Op.eqFields 9999 (a.map V8 ++ b.map V8).toArray (c.map V8 ++ d.map V8).toArray [f, g]).run P w = .ok (decide ((a, b) = (c, d))) w := by
  have p1 := run_part32 w _ _ j hu hj hs [] (a.map V8) (b.map V8) 0 rfl (by simpa using ha)
  have p2 := run_part32 w _ _ j hu hj hs [] (c.map V8) (d.map V8) 0 rfl (by simpa using hc)
  have p3 := run_part32 w _ _ j hu hj hs (a.map V8) (b.map V8) [] 32 (by simpa using ha) (by simpa using hb)
  have p4 := run_part32 w _ _ j hu hj hs (c.map V8) (d.map V8) [] 32 (by simpa using hc) (by simpa using hd)
  rw [List.nil_append] at p1 p2
  rw [List.append_nil] at p3 p4
  have q1 := run_eql32d w 9997 T e i hu he hi hce a c ha hc
  have q2 := run_eql32d w 9997 T e i hu he hi hce b d hb hd
  unfold Dv at q1 q2
  generalize (a.map V8 ++ b.map V8).toArray = xs at *
  generalize (c.map V8 ++ d.map V8).toArray = ys at *
  generalize (a.map V8).toArray = xa at *
  generalize (b.map V8).toArray = xb at *
  generalize (c.map V8).toArray = xc at *
  generalize (d.map V8).toArray = xd at *
  change (Op.equalIn 9999 T _ _).run P w = _ at q1
  change (Op.equalIn 9999 T _ _).run P w = _ at q2
  generalize 9999 = dp at *
  simp only [Op.eqFields, n1, n2, ne_eq, not_false_eq_true, if_true, t1, t2, o1, o2, Sem.run_bind, p1, p2, Result.andThen_ok]
  rw [q1]
  simp only [Result.andThen_ok]
  by_cases h1 : a = c
  · subst h1
    rw [decide_eq_true rfl]
    simp only [Bool.not_true, Bool.false_eq_true, if_false, Sem.run_bind, p3, p4, Result.andThen_ok]
    rw [q2]
    simp only [Result.andThen_ok]
    by_cases h2 : b = d
    · subst h2; simp
    · simp [h2]
  · simp [h1]
theorem eqlPair (a b c d : List UInt8) (ha : a.length = 32) (hb : b.length = 32) (hc : c.length = 32) (hd : d.length = 32) (w : World) :
    (Op.equalIn 10000 93 (.agg (a.map V8 ++ b.map V8).toArray) (.agg (c.map V8 ++ d.map V8).toArray)).run Tryd.prog w = .ok (decide ((a, b) = (c, d))) w := by
  have h := run_equalIn_struct (P := Tryd.prog) w 9999 93 (a.map V8 ++ b.map V8).toArray (c.map V8 ++ d.map V8).toArray pair_under (by kernel_rfl)
  refine h.trans ?_
  obtain ⟨f, g, e, h1, h2⟩ := two_map pair_fields
  rw [e]
  simp only [Prod.mk.injEq] at h1 h2
  obtain ⟨i, hi⟩ := info_u8
  obtain ⟨j, hj⟩ := info_dig
  exact eqFields_pair w _ 5 f g i j (of_decide_eq_true h1.1) (of_decide_eq_true h2.1) h1.2.1 h2.2.1 h1.2.2 h2.2.2 Tryd.underlying24 hj cells_sum Tryd.underlying5 hi (by kernel_rfl) a b c d ha hb hc hd
end Go.Proofs.YteehpfccegnjjaaDoor
