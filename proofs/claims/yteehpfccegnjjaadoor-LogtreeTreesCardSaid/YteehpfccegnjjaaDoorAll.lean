/-
  The class walk of a region without a forced tail: all its operations, in an order of the prover's choice.
-/
import Derived.Test.YteehpfccegnjjaaDoorClass
import Derived.Laws.StructEq
namespace Go.Proofs.YteehpfccegnjjaaDoor
open Go Go.RowKit
section
variable {P : Program} {ops : Array Oper} {md : Region.Mode} {E : World → Prop}
theorem ready_lt {listed : Array Bool} {j : Nat} (h : j ∈ Region.ready md ops listed) : j < ops.size := by
  obtain ⟨_, oj, hoj, _⟩ := mem_ready.1 h
  exact (Array.getElem?_eq_some_iff.1 hoj).1
theorem wpW_firstN {i : Nat} {oi : Oper} {v : Value} {L : (World → Prop) → Array Bool → Act → Prop} (hi : ops[i]? = some oi) (hsel : ∀ (j : Nat) (o : Oper) cs b, ops[j]? = some o → o.op ≠ .select cs b)
    (hdone : ∀ D listed a, L D listed a → ∀ j ∈ Region.ready md ops listed, ops.size ≤ j) (f : Nat) : ∀ (D : World → Prop) (listed : Array Bool) (a : Act),
      (∀ j oj, ops[j]? = some oj → j ≠ i → listed.getD j true = false → (∀ e ∈ oj.after, Region.binds md e = true → e.on ≠ i) → oi.apart ops oj = true) →
      i ∈ Region.ready md ops listed → YB P ops E oi v a →
      wpW P md ops E ops.size L f D (listed.setIfInBounds i true) (a.put oi.dst v) → wpW P md ops E ops.size L (f + 1) D listed a := by
  induction f with
  | zero =>
    intro D listed a _ hr hy H
    refine ⟨fun h => (by rw [h] at hr; cases hr), fun j hj => ?_⟩
    have hjn := ready_lt hj
    refine ⟨hjn, ?_⟩
    by_cases hji : j = i
    · subst hji; exact ⟨oi, hi, .inl ⟨v, hy, H⟩⟩
    · have := hdone _ _ _ H j (ready_mono hj hji)
      omega
  | succ f ih =>
    intro D listed a hfree hr hy H
    have hun := (mem_ready.1 hr).1
    refine ⟨fun h => (by rw [h] at hr; cases hr), fun j hj => ?_⟩
    have hjn := ready_lt hj
    refine ⟨hjn, ?_⟩
    by_cases hji : j = i
    · subst hji; exact ⟨oi, hi, .inl ⟨v, hy, H⟩⟩
    obtain ⟨hjun, oj, hoj, hall⟩ := mem_ready.1 hj
    have hnot : ∀ e ∈ oj.after, Region.binds md e = true → e.on ≠ i := fun e he hb heq => by
      have h1 := hall e he hb
      rw [heq, getD_both hun] at h1
      cases h1
    have h2 := opW_put hoj (hfree j oj hoj hji hjun hnot) (fun cs b => hsel i oi cs b hi) (fun cs b => hsel j oj cs b hoj) hy (H.2 j (ready_mono hj hji)).2
    refine opW_mono (fun D' a' h3 => ih D' (listed.setIfInBounds j true) a' (fun k ok hk hki hun hno => ?_) (ready_mono hr (Ne.symm hji)) h3.1 ?_) h2
    · refine hfree k ok hk hki ?_ hno
      by_cases hjk : j = k
      · subst hjk; exact hjun
      · rw [getD_set_ne true hjk] at hun; exact hun
    · rw [Array.setIfInBounds_comm _ _ hji]
      exact h3.2
def lexN (md : Region.Mode) (ops : Array Oper) (al : List Nat) : List Nat → Array Bool → Bool
  | [], listed => (Region.ready md ops listed).isEmpty
  | k :: l, listed => (if al.contains k then decide (Region.ready md ops listed = [k]) else (Region.ready md ops listed).contains k && Region.free md ops listed k) && lexN md ops al l (listed.setIfInBounds k true)
def tailN (md : Region.Mode) (ops : Array Oper) (al : List Nat) (ord : List Nat) : Bool :=
  Region.noSelect ops && decide (ord.length = ops.size) && ord.all (fun k => decide (k < ops.size)) && lexN md ops al ord (Array.replicate ops.size false)
theorem wpW_lexN {al : List Nat} {Lq : (World → Prop) → Act → Prop} (hsel : Region.noSelect ops = true) :
    ∀ (l : List (Nat × Oper)) (D : World → Prop) (listed : Array Bool) (a : Act), (∀ x ∈ l, ops[x.1]? = some x.2) →
    lexN md ops al (l.map (·.1)) listed = true → wpL P ops E al Lq l D a →
    wpW P md ops E ops.size (fun D' listed' a' => Region.ready md ops listed' = [] ∧ Lq D' a') l.length D listed a
  | [], D, listed, a, _, hB, h => ⟨by simpa [lexN] using hB, h⟩
  | (k, o) :: l, D, listed, a, hl, hB, h => by
    have h0 : ops[k]? = some o := hl (k, o) (by simp)
    have hl' : ∀ x ∈ l, ops[x.1]? = some x.2 := fun x hx => hl x (by simp [hx])
    simp only [List.map_cons, lexN, Bool.and_eq_true] at hB
    obtain ⟨hr, hB'⟩ := hB
    unfold wpL at h
    by_cases hal : al.contains k = true
    · rw [if_pos hal] at h hr
      have hr := of_decide_eq_true hr
      obtain ⟨hw, X, u, Dx, h1, h2, h3⟩ := h
      refine ⟨by rw [hr]; simp, fun i hi => ?_⟩
      have hlt := ready_lt hi
      rw [hr] at hi
      obtain rfl : i = k := by simpa using hi
      exact ⟨hlt, o, h0, .inr ⟨hw, X, u, Dx, h1, h2, fun x => wpW_lexN hsel l _ _ _ hl' hB' (h3 x)⟩⟩
    · rw [if_neg hal] at h hr
      simp only [Bool.and_eq_true] at hr
      have hr' : k ∈ Region.ready md ops listed := by simpa using hr.1
      obtain ⟨v, h1, h2⟩ := h
      exact wpW_firstN h0 (Region.noSelect_spec hsel) (fun _ _ _ hL j hj => by rw [hL.1] at hj; cases hj) l.length D listed a (Region.free_spec h0 hr.2) hr' h1
        (wpW_lexN hsel l _ _ _ hl' hB' h2)
theorem wp_region_all2 {id : Nat} {Q : Exit → Act → World → Prop} {a : Act} {w : World} {l : List Oper} (al ord : List Nat) (E D : World → Prop) (hD : Stable D) (hE : ∀ w, D w → E w) (h0 : D { w with drawn := w.drawn + 1 })
    (hm : P.follows .mixedOrders = true) (hB : tailN .any l.toArray al ord = true)
    (h : wpL P l.toArray E al (fun D' a' => ∀ w', D' w' → wpList P l.toArray Q [] a' w') (opsOf l ord) D a) : (Code.region id l.toArray true).wp P Q a w := by
  simp only [tailN, Bool.and_eq_true, decide_eq_true_eq, List.all_eq_true] at hB
  obtain ⟨⟨⟨hsel, hlen⟩, hlt⟩, hlex⟩ := hB
  have hmap : (opsOf l ord).map (·.1) = ord := opsOf_map l ord fun k hk => by simpa using hlt k hk
  have htl : (opsOf l ord).length = l.toArray.size := by rw [← hlen, ← List.length_map (f := (·.1)), hmap]
  have H := wpW_lexN (md := .any) hsel (opsOf l ord) D _ a (fun x hx => by simpa using opsOf_mem l ord x hx) (by rw [hmap]; exact hlex) h
  refine wp_region_any hm ?_
  have := wpAny_of_W (Q' := Q) (g := 0) (fun D' listed a' w' hw' hL => ⟨hL.1, hL.2 w' hw'⟩) _ D _ _ _ hD hE h0 H
  rw [htl, Nat.add_zero] at this
  exact this
theorem wp_region_all {id : Nat} {Q : Exit → Act → World → Prop} {a : Act} {w : World} {l : List Oper} (al ord : List Nat) (E : World → Prop) (hD : Stable E) (h0 : E { w with drawn := w.drawn + 1 })
    (hm : P.follows .mixedOrders = true) (hB : tailN .any l.toArray al ord = true)
    (h : wpL P l.toArray E al (fun D' a' => ∀ w', D' w' → wpList P l.toArray Q [] a' w') (opsOf l ord) E a) : (Code.region id l.toArray true).wp P Q a w :=
  wp_region_all2 al ord E E hD (fun _ h => h) h0 hm hB h
/-- An operation in the text's order that yields a value and leaves the world. -/
theorem wpList_val {o : Oper} {rest : List Oper} {Q : Exit → Act → World → Prop} {a : Act} {w : World} (hg : o.guard = none) (v : Value) (h : (execOp a.eval o).run P w = .ok (.value v) w) (k : wpList P ops Q rest (a.put o.dst v) w) :
    wpList P ops Q (o :: rest) a w :=
  wpList_plain hg fun _ hK => by
    unfold Oper.wp
    rw [h]
    exact hK _ _ k
/-- '!=' and '==' on structs and arrays, by what the comparison answers. -/
theorem quiet_neq {C : World → Prop} {o : Oper} {a : Act} {w : World} (t : TypeId) (x y : Operand) (u : TypeId) (ho : o.op = .binOp .neq t x y u) (xs ys : Array Value) (hx : a.eval x = .agg xs) (hy : a.eval y = .agg ys)
    (hm : P.eqGuardType P.depth t = false) (b : Bool) (he : (Op.equalIn 10000 t (.agg xs) (.agg ys)).run P w = .ok b w) : o.quietAt P a C w (.bool (!b)) := by
  unfold Oper.quietAt execOp
  simp only [ho, hx, hy, Sem.run_bind, Sem.run_pure, run_eqGuard_agg (hm := hm), run_neq_struct, he, Result.andThen_ok, Oper.quietUpon, and_self]
theorem quiet_eql {C : World → Prop} {o : Oper} {a : Act} {w : World} (t : TypeId) (x y : Operand) (u : TypeId) (ho : o.op = .binOp .eql t x y u) (xs ys : Array Value) (hx : a.eval x = .agg xs) (hy : a.eval y = .agg ys)
    (hm : P.eqGuardType P.depth t = false) (b : Bool) (he : (Op.equalIn 10000 t (.agg xs) (.agg ys)).run P w = .ok b w) : o.quietAt P a C w (.bool b) := by
  unfold Oper.quietAt execOp
  simp only [ho, hx, hy, Sem.run_bind, Sem.run_pure, run_eqGuard_agg (hm := hm), run_eql_struct, he, Result.andThen_ok, Oper.quietUpon, and_self]
/-! A drawn region as a tree: lists of operations that are taken first, or stand alone, and branches where several stand alone. -/
def lexP (md : Region.Mode) (ops : Array Oper) (al : List Nat) : List Nat → Array Bool → Bool
  | [], _ => true
  | k :: l, listed => decide (k < ops.size) && (if al.contains k then decide (Region.ready md ops listed = [k]) else (Region.ready md ops listed).contains k && Region.free md ops listed k) && lexP md ops al l (listed.setIfInBounds k true)
def done (listed : Array Bool) (ord : List Nat) : Array Bool := ord.foldl (fun s k => s.setIfInBounds k true) listed
/-- Behind so many operations, in this class, from this frame. -/
def wpB (P : Program) (l : List Oper) (E : World → Prop) (Q : Exit → Act → World → Prop) (f : Nat) (listed : Array Bool) (D : World → Prop) (a : Act) : Prop :=
  wpW P .any l.toArray E l.toArray.size (fun D' listed' a' => Region.ready .any l.toArray listed' = [] ∧ ∀ w', D' w' → wpList P l.toArray Q [] a' w') f D listed a
theorem wpW_lexP {al : List Nat} {Lq : (World → Prop) → Act → Prop} (hsel : Region.noSelect ops = true) (f : Nat) :
    ∀ (l : List (Nat × Oper)) (D : World → Prop) (listed : Array Bool) (a : Act), (∀ x ∈ l, ops[x.1]? = some x.2) →
    lexP md ops al (l.map (·.1)) listed = true →
    wpL P ops E al (fun D' a' => wpW P md ops E ops.size (fun D' listed' a' => Region.ready md ops listed' = [] ∧ Lq D' a') f D' (done listed (l.map (·.1))) a') l D a →
    wpW P md ops E ops.size (fun D' listed' a' => Region.ready md ops listed' = [] ∧ Lq D' a') (f + l.length) D listed a
  | [], D, listed, a, _, hB, h => h
  | (k, o) :: l, D, listed, a, hl, hB, h => by
    have h0 : ops[k]? = some o := hl (k, o) (by simp)
    have hl' : ∀ x ∈ l, ops[x.1]? = some x.2 := fun x hx => hl x (by simp [hx])
    simp only [List.map_cons, lexP, Bool.and_eq_true, decide_eq_true_eq] at hB
    obtain ⟨⟨_, hr⟩, hB'⟩ := hB
    unfold wpL at h
    by_cases hal : al.contains k = true
    · rw [if_pos hal] at h hr
      have hr := of_decide_eq_true hr
      obtain ⟨hw, X, u, Dx, h1, h2, h3⟩ := h
      refine ⟨by rw [hr]; simp, fun i hi => ?_⟩
      have hlt := ready_lt hi
      rw [hr] at hi
      obtain rfl : i = k := by simpa using hi
      exact ⟨hlt, o, h0, .inr ⟨hw, X, u, Dx, h1, h2, fun x => wpW_lexP hsel f l _ _ _ hl' hB' (h3 x)⟩⟩
    · rw [if_neg hal] at h hr
      simp only [Bool.and_eq_true] at hr
      have hr' : k ∈ Region.ready md ops listed := by simpa using hr.1
      obtain ⟨v, h1, h2⟩ := h
      exact wpW_firstN h0 (Region.noSelect_spec hsel) (fun _ _ _ hL j hj => by rw [hL.1] at hj; cases hj) (f + l.length) D listed a (Region.free_spec h0 hr.2) hr' h1
        (wpW_lexP hsel f l _ _ _ hl' hB' h2)
theorem lexP_lt {al : List Nat} : ∀ (ord : List Nat) (listed : Array Bool), lexP md ops al ord listed = true → ∀ k ∈ ord, k < ops.size
  | [], _, _, _, hx => by simp at hx
  | k :: l, listed, h, x, hx => by
    simp only [lexP, Bool.and_eq_true, decide_eq_true_eq] at h
    rcases List.mem_cons.1 hx with rfl | hx
    · exact h.1.1
    · exact lexP_lt l _ h.2 x hx
theorem wpB_list {l : List Oper} {Q : Exit → Act → World → Prop} {D : World → Prop} {a : Act} {listed : Array Bool} {F : Nat} (al ord : List Nat) (f : Nat) (hf : F = f + ord.length) (hB : (Region.noSelect l.toArray && lexP .any l.toArray al ord listed) = true)
    (h : wpL P l.toArray E al (fun D' a' => wpB P l E Q f (done listed ord) D' a') (opsOf l ord) D a) : wpB P l E Q F listed D a := by
  simp only [Bool.and_eq_true] at hB
  have hmap : (opsOf l ord).map (·.1) = ord := opsOf_map l ord fun k hk => by simpa using lexP_lt ord _ hB.2 k hk
  have hlen : (opsOf l ord).length = ord.length := by rw [← hmap, List.length_map, hmap]
  subst hf
  unfold wpB
  have := wpW_lexP (md := .any) (Lq := fun D' a' => ∀ w', D' w' → wpList P l.toArray Q [] a' w') hB.1 f (opsOf l ord) D listed a (fun x hx => by simpa using opsOf_mem l ord x hx) (by rw [hmap]; exact hB.2) (by rw [hmap]; exact h)
  rwa [hlen] at this
theorem wpB_end {l : List Oper} {Q : Exit → Act → World → Prop} {D : World → Prop} {a : Act} {listed : Array Bool} (hr : (Region.ready .any l.toArray listed).isEmpty = true) (h : ∀ w', D w' → wpList P l.toArray Q [] a w') : wpB P l E Q 0 listed D a :=
  ⟨by simpa using hr, h⟩
theorem opW_of_alone {l : List Oper} {i : Nat} {K : (World → Prop) → Act → Prop} {D : World → Prop} {a : Act} (hi : i < l.length) (h : wpL P l.toArray E [i] K (opsOf l [i]) D a) : opW P l.toArray E i K D a := by
  simp only [opsOf, List.getElem?_eq_getElem hi] at h
  unfold wpL at h
  rw [if_pos (by simp)] at h
  obtain ⟨hw, X, u, Dx, h1, h2, h3⟩ := h
  exact ⟨l[i], by simp [hi], .inr ⟨hw, X, u, Dx, h1, h2, h3⟩⟩
theorem wpB_two {l : List Oper} {Q : Exit → Act → World → Prop} {D : World → Prop} {a : Act} {listed : Array Bool} (i j f : Nat) (hr : decide (Region.ready .any l.toArray listed = [i, j] ∧ i < l.length ∧ j < l.length) = true)
    (h1 : wpL P l.toArray E [i] (fun D' a' => wpB P l E Q f (done listed [i]) D' a') (opsOf l [i]) D a)
    (h2 : wpL P l.toArray E [j] (fun D' a' => wpB P l E Q f (done listed [j]) D' a') (opsOf l [j]) D a) : wpB P l E Q (f + 1) listed D a := by
  obtain ⟨hr, hi, hj⟩ := of_decide_eq_true hr
  refine ⟨by rw [hr]; simp, fun k hk => ⟨ready_lt hk, ?_⟩⟩
  rw [hr] at hk
  simp only [List.mem_cons, List.not_mem_nil, or_false] at hk
  rcases hk with rfl | rfl
  · exact opW_of_alone hi h1
  · exact opW_of_alone hj h2
theorem wpB_three {l : List Oper} {Q : Exit → Act → World → Prop} {D : World → Prop} {a : Act} {listed : Array Bool} (i j m f : Nat) (hr : decide (Region.ready .any l.toArray listed = [i, j, m] ∧ i < l.length ∧ j < l.length ∧ m < l.length) = true)
    (h1 : wpL P l.toArray E [i] (fun D' a' => wpB P l E Q f (done listed [i]) D' a') (opsOf l [i]) D a)
    (h2 : wpL P l.toArray E [j] (fun D' a' => wpB P l E Q f (done listed [j]) D' a') (opsOf l [j]) D a)
    (h3 : wpL P l.toArray E [m] (fun D' a' => wpB P l E Q f (done listed [m]) D' a') (opsOf l [m]) D a) : wpB P l E Q (f + 1) listed D a := by
  obtain ⟨hr, hi, hj, hm⟩ := of_decide_eq_true hr
  refine ⟨by rw [hr]; simp, fun k hk => ⟨ready_lt hk, ?_⟩⟩
  rw [hr] at hk
  simp only [List.mem_cons, List.not_mem_nil, or_false] at hk
  rcases hk with rfl | rfl | rfl
  · exact opW_of_alone hi h1
  · exact opW_of_alone hj h2
  · exact opW_of_alone hm h3
theorem wp_region_tree {id : Nat} {Q : Exit → Act → World → Prop} {a : Act} {w : World} {l : List Oper} (E : World → Prop) (hE : Stable E) (h0 : E { w with drawn := w.drawn + 1 })
    (hm : P.follows .mixedOrders = true) (h : wpB P l E Q l.length (Array.replicate l.length false) E a) : (Code.region id l.toArray true).wp P Q a w := by
  refine wp_region_any hm ?_
  have := wpAny_of_W (Q' := Q) (g := 0) (fun D' listed a' w' hw' hL => ⟨hL.1, hL.2 w' hw'⟩) _ E _ _ _ hE (fun _ h => h) h0 h
  simpa using this
end
end Go.Proofs.YteehpfccegnjjaaDoor
