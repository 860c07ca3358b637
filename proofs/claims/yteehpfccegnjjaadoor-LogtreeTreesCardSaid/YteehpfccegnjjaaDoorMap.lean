/-
  The map of a tree's roots: keys of two numbers, elements that are digests.
-/
import Derived.Test.YteehpfccegnjjaaDoorSpoil
import Derived.MapKept
import Derived.WideKeyRuns
namespace Go.Proofs.YteehpfccegnjjaaDoor
open Go Go.RowKit Go.MapKept
abbrev Sp (l i : Int) : Value := .agg #[.int .i64 l, .int .i64 i]
theorem span_fields : (Tryd.prog.fieldsOf 110).toList.map (fun f => (decide (f.name ≠ "_"), f.type, f.offset)) = [(true, 3, 0), (true, 3, 1)] := by kernel_rfl
theorem span_under : Tryd.prog.underlying 110 = some (.struct (Tryd.prog.fieldsOf 110)) := by kernel_rfl
theorem int_plain : Tryd.prog.plainKey 3 = true := by kernel_rfl
theorem eqlSpan (a b c d : Int) (w : World) : (Op.equalIn 10000 110 (Sp a b) (Sp c d)).run Tryd.prog w = .ok (decide (a = c ∧ b = d)) w := by
  have h := run_equalIn_struct (P := Tryd.prog) w 9999 110 #[.int .i64 a, .int .i64 b] #[.int .i64 c, .int .i64 d] span_under (by kernel_rfl)
  refine h.trans ?_
  obtain ⟨f, g, e, h1, h2⟩ := two_map span_fields
  rw [e]
  simp only [Prod.mk.injEq] at h1 h2
  have n1 := of_decide_eq_true h1.1
  have n2 := of_decide_eq_true h2.1
  have p1 : (part f.type #[.int .i64 a, .int .i64 b] f.offset).run Tryd.prog w = .ok (.int .i64 a) w := by rw [h1.2.1, h1.2.2]; exact run_part_plain w int_plain rfl
  have p2 : (part f.type #[.int .i64 c, .int .i64 d] f.offset).run Tryd.prog w = .ok (.int .i64 c) w := by rw [h1.2.1, h1.2.2]; exact run_part_plain w int_plain rfl
  have p3 : (part g.type #[.int .i64 a, .int .i64 b] g.offset).run Tryd.prog w = .ok (.int .i64 b) w := by rw [h2.2.1, h2.2.2]; exact run_part_plain w int_plain rfl
  have p4 : (part g.type #[.int .i64 c, .int .i64 d] g.offset).run Tryd.prog w = .ok (.int .i64 d) w := by rw [h2.2.1, h2.2.2]; exact run_part_plain w int_plain rfl
  have q1 : (Op.equalIn 9999 f.type (.int .i64 a) (.int .i64 c)).run Tryd.prog w = .ok (a == c) w := by rw [h1.2.1]; exact run_equalIn_int w 9998 3 .i64 .i64 a c Tryd.underlying3
  have q2 : (Op.equalIn 9999 g.type (.int .i64 b) (.int .i64 d)).run Tryd.prog w = .ok (b == d) w := by rw [h2.2.1]; exact run_equalIn_int w 9998 3 .i64 .i64 b d Tryd.underlying3
  clear h h1 h2 e
  generalize hdp : 9999 = dp at *
  clear hdp
  simp only [Op.eqFields, n1, n2, ne_eq, not_false_eq_true, if_true, Sem.run_bind, p1, p2, Result.andThen_ok]
  rw [q1]
  simp only [Result.andThen_ok]
  by_cases hac : a = c
  · subst hac
    simp only [beq_self_eq_true, Bool.not_true, Bool.false_eq_true, if_false, Sem.run_bind, p3, p4, Result.andThen_ok]
    rw [q2]
    simp only [Result.andThen_ok]
    by_cases hbd : b = d
    · subst hbd; simp
    · simp [hbd]
  · simp [hac]
theorem checkSpan (em : Bool) (a b : Int) (w : World) : (Instr.checkKey em 10000 110 (Sp a b)).run Tryd.prog w = .ok () w := by
  obtain ⟨f, g, e, h1, h2⟩ := two_map span_fields
  simp only [Prod.mk.injEq] at h1 h2
  have n1 := of_decide_eq_true h1.1
  have n2 := of_decide_eq_true h2.1
  have p1 : (part f.type #[.int .i64 a, .int .i64 b] f.offset).run Tryd.prog w = .ok (.int .i64 a) w := by rw [h1.2.1, h1.2.2]; exact run_part_plain w int_plain rfl
  have p3 : (part g.type #[.int .i64 a, .int .i64 b] g.offset).run Tryd.prog w = .ok (.int .i64 b) w := by rw [h2.2.1, h2.2.2]; exact run_part_plain w int_plain rfl
  have c1 : ∀ n v, (Instr.checkKey em (n + 1) f.type (.int .i64 v)).run Tryd.prog w = .ok () w := fun n v => by rw [h1.2.1]; simp [Instr.checkKey, run_underlying Tryd.underlying3]
  have c2 : ∀ n v, (Instr.checkKey em (n + 1) g.type (.int .i64 v)).run Tryd.prog w = .ok () w := fun n v => by rw [h2.2.1]; simp [Instr.checkKey, run_underlying Tryd.underlying3]
  have d1 := c1 9998 a
  have d2 := c2 9998 b
  clear c1 c2 h1 h2
  show (Instr.checkKey em (9999 + 1) _ _).run _ _ = _
  have hd : (9998 : Nat) + 1 = 9999 := rfl
  rw [hd] at d1 d2
  generalize 9999 = dp at *
  simp only [Instr.checkKey, Sem.run_bind, run_underlying span_under, Result.andThen_ok]
  rw [← Array.forIn_toList, e]
  simp [n1, n2, p1, p3, d1, d2]
/-- The map's entries: each key tells of which leaves its element is the root. -/
def GoodE (ds : List (List UInt8)) (e : MapEntry) : Prop :=
  ∃ l i : Nat, e.key = Sp l i ∧ e.val = Dv (mroot ((ds.drop (i * 2 ^ l)).take (2 ^ l))) ∧ (i + 1) * 2 ^ l ≤ ds.length
theorem findSpan (ds : List (List UInt8)) (a b : Nat) : ∀ (es : List MapEntry) (k : Nat), (∀ e ∈ es, GoodE ds e) →
    (∀ w, (Instr.findAsking 110 (Sp a b) es k).run Tryd.prog w = .ok none w) ∨
    ∃ j, (∀ w, (Instr.findAsking 110 (Sp a b) es k).run Tryd.prog w = .ok (some (k + j, Dv (mroot ((ds.drop (b * 2 ^ a)).take (2 ^ a))))) w) ∧ j < es.length ∧ (b + 1) * 2 ^ a ≤ ds.length ∧ (es[j]?).map (·.key) = some (Sp a b)
  | [], k, _ => .inl fun w => by simp [Instr.findAsking]
  | e :: es, k, h => by
    obtain ⟨l, i, hk, hv, hle⟩ := h e (by simp)
    have hop : ∀ w, (Op.equal 110 (Sp a b) e.key).run Tryd.prog w = .ok (decide ((a : Int) = l ∧ (b : Int) = i)) w := fun w => by rw [hk]; exact eqlSpan a b l i w
    by_cases hc : (a : Int) = l ∧ (b : Int) = i
    · obtain ⟨h1, h2⟩ := hc
      have e1 : a = l := by omega
      have e2 : b = i := by omega
      subst e1
      subst e2
      right
      refine ⟨0, fun w => ?_, by simp, hle, by simp [hk]⟩
      simp [Instr.findAsking, hop w, hv]
    · rcases findSpan ds a b es (k + 1) (fun x hx => h x (by simp [hx])) with h1 | ⟨j, h1, h2, h3, h4⟩
      · left
        intro w
        simp [Instr.findAsking, hop w, hc, h1 w]
      · right
        refine ⟨j + 1, fun w => ?_, by simpa using h2, h3, by simpa using h4⟩
        simp only [Instr.findAsking, Sem.run_bind, hop w, decide_eq_false hc, Result.andThen_ok, Bool.false_eq_true, if_false, h1 w]
        rw [show k + 1 + j = k + (j + 1) by omega]
theorem findEq (w : World) (x : Value) (es : List MapEntry) : (Instr.findKey 110 x es).run Tryd.prog w = (Instr.findAsking 110 x es).run Tryd.prog w := run_findKey_eq w (by rw [span_under]) x es
/-- The tree's map. -/
def RootsAt (w : World) (base : Nat) (ds : List (List UInt8)) (mv : Value) : Prop :=
  mv = .map none ∨ ∃ b es clock, mv = .map (some b) ∧ base ≤ b ∧ w.heap[b]? = some (.map es clock) ∧ ∀ e ∈ es.toList, GoodE ds e
set_option maxRecDepth 100000 in
theorem run_look (w0 : World) (base : Nat) (ds : List (List UInt8)) (mv : Value) (h : RootsAt w0 base ds mv) (a b : Nat) :
    (∀ w, Below w0.heap.size w0 w → (Instr.lookup 101 mv (Sp a b) true).run Tryd.prog w = .ok (.tuple #[Dv zd, .bool false]) w) ∨
    ((∀ w, Below w0.heap.size w0 w → (Instr.lookup 101 mv (Sp a b) true).run Tryd.prog w = .ok (.tuple #[Dv (mroot ((ds.drop (b * 2 ^ a)).take (2 ^ a))), .bool true]) w) ∧ (b + 1) * 2 ^ a ≤ ds.length) := by
  rcases h with rfl | ⟨r, es, clock, rfl, hb, hr, hg⟩
  · left
    intro w _
    simp [Instr.lookup, run_underlying Tryd.underlying101, checkSpan, findEq, Instr.findAsking]
    rfl
  · have hlt : r < w0.heap.size := (Array.getElem?_eq_some_iff.1 hr).1
    have hgo := fun w (h : Below w0.heap.size w0 w) => MapKept.run_getObj_map (P := Tryd.prog) (w := w) ((h.block r hlt).trans hr)
    rcases findSpan ds a b es.toList 0 hg with h1 | ⟨j, h1, _, h3, _⟩
    · left
      intro w hw
      simp [Instr.lookup, run_underlying Tryd.underlying101, hgo w hw, checkSpan, findEq, h1 w]
      rfl
    · right
      refine ⟨fun w hw => ?_, h3⟩
      simp [Instr.lookup, run_underlying Tryd.underlying101, hgo w hw, checkSpan, findEq, h1 w]
theorem run_stay (w : World) (a b : Int) : (Instr.keyThatStays (Sp a b) (Sp a b)).run Tryd.prog w = .ok (Sp a b) w := by
  have h : Instr.sameBits 10000 (Sp a b) (Sp a b) = true := by simp [Instr.sameBits]
  simp [Instr.keyThatStays, h]
set_option maxRecDepth 100000 in
theorem run_put (w : World) (base : Nat) (ds : List (List UInt8)) (r : Nat) (h : RootsAt w base ds (.map (some r))) (a b : Nat) (hle : (b + 1) * 2 ^ a ≤ ds.length) (v : Value) (hv : v = Dv (mroot ((ds.drop (b * 2 ^ a)).take (2 ^ a)))) :
    ∃ o, (Instr.mapUpdate 101 (.map (some r)) (Sp a b) v).run Tryd.prog w = .ok () { w with heap := w.heap.setIfInBounds r o } ∧ RootsAt { w with heap := w.heap.setIfInBounds r o } base ds (.map (some r)) := by
  rcases h with h | ⟨r', es, clock, hm, hb, hr, hg⟩
  · cases h
  · cases hm
    have hlt : r < w.heap.size := (Array.getElem?_eq_some_iff.1 hr).1
    have hgo := MapKept.run_getObj_map (P := Tryd.prog) hr
    have hset := fun o => run_setObj_map (P := Tryd.prog) o hr
    have hget : ∀ o, ({ w with heap := w.heap.setIfInBounds r o } : World).heap[r]? = some o := fun o => by simp [hlt]
    have hn : GoodE ds { key := Sp a b, val := v, born := clock } := ⟨a, b, rfl, hv, hle⟩
    rcases findSpan ds a b es.toList 0 hg with h1 | ⟨j, h1, h2, _, h4⟩
    · refine ⟨.map (es.push { key := Sp a b, val := v, born := clock }) (clock + 1), ?_, .inr ⟨r, _, _, rfl, hb, hget _, fun e he => ?_⟩⟩
      · simp [Instr.mapUpdate, run_underlying Tryd.underlying101, hgo, checkSpan, findEq, h1, hset]
      · simp only [Array.toList_push, List.mem_append, List.mem_singleton] at he
        rcases he with he | rfl
        · exact hg e he
        · exact hn
    · have hj : j < es.size := by simpa using h2
      have hkey : ((es[j]?).map (·.key)).getD (Sp a b) = Sp a b := by
        rw [← Array.getElem?_toList, h4]; rfl
      refine ⟨.map (es.modify j fun e => { e with key := Sp a b, val := v }) clock, ?_, .inr ⟨r, _, _, rfl, hb, hget _, fun e he => ?_⟩⟩
      · simp only [Instr.mapUpdate, Sem.run_bind, run_underlying Tryd.underlying101, Result.andThen_ok, hgo, checkSpan, findEq, h1, Nat.zero_add, hkey, run_stay, hset]
      · obtain ⟨k, hk, rfl⟩ := List.mem_iff_getElem.1 he
        simp only [Array.getElem_toList, Array.getElem_modify] at *
        split
        · exact ⟨a, b, rfl, hv, hle⟩
        · exact hg _ (by simp)
end Go.Proofs.YteehpfccegnjjaaDoor
