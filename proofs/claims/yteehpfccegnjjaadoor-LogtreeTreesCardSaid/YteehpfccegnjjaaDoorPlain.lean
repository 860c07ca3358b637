/-
  A region in the text's order, walked as a drawn one is: over classes of worlds.
-/
import Derived.Test.YteehpfccegnjjaaDoorKnown
namespace Go.Proofs.YteehpfccegnjjaaDoor
open Go Go.RowKit
section
variable {P : Program} {ops : Array Oper} {E : World → Prop}
theorem wpList_class {al : List Nat} {Q : Exit → Act → World → Prop} (tl : List Oper) : ∀ (l1 : List (Nat × Oper)) (D : World → Prop) (a : Act) (w : World), (∀ x ∈ l1, ops[x.1]? = some x.2) → Stable D → (∀ w, D w → E w) → D w →
    wpL P ops E al (fun D' a' => ∀ w', D' w' → wpList P ops Q tl a' w') l1 D a → wpList P ops Q (l1.map (·.2) ++ tl) a w
  | [], _, _, w, _, _, _, hw, h => h w hw
  | (k, o) :: r, D, a, w, hm, hD, hE, hw, h => by
    have h0 : ops[k]? = some o := hm (k, o) (by simp)
    have hop : opW P ops E k (fun D' a' => wpL P ops E al (fun D' a' => ∀ w', D' w' → wpList P ops Q tl a' w') r D' a') D a := by
      unfold wpL at h
      by_cases hal : al.contains k = true
      · rw [if_pos hal] at h
        obtain ⟨h1, X, u, Dx, h2, h3, h4⟩ := h
        exact ⟨o, h0, .inr ⟨h1, X, u, Dx, h2, h3, h4⟩⟩
      · rw [if_neg hal] at h
        obtain ⟨v, h1, h2⟩ := h
        exact ⟨o, h0, .inl ⟨v, h1, h2⟩⟩
    have hp := wpOp_of_opW (Q' := Q) hD hE hw (fun D' a' w' hD' hE' hw' h' => wpList_class tl r D' a' w' (fun x hx => hm x (by simp [hx])) hD' hE' hw' h') hop
    unfold wpOp at hp
    simp only [h0] at hp
    exact hp
theorem opsOf_all (l : List Oper) : ∀ (n : Nat), n ≤ l.length → (opsOf l (List.range n)).map (·.2) = l.take n
  | 0, _ => by simp [opsOf]
  | n + 1, h => by
    have e : ∀ (a b : List Nat), opsOf l (a ++ b) = opsOf l a ++ opsOf l b := by
      intro a b
      induction a with
      | nil => rfl
      | cons k a ih =>
        simp only [List.cons_append, opsOf]
        split
        · rw [ih]; rfl
        · exact ih
    rw [List.range_succ, e, List.map_append, opsOf_all l n (by omega), List.take_succ_eq_append_getElem (by omega)]
    simp [opsOf, List.getElem?_eq_getElem (show n < l.length by omega)]
theorem wp_region_listed {id : Nat} {Q : Exit → Act → World → Prop} {a : Act} {w : World} {l : List Oper} (n : Nat) (al : List Nat) (E : World → Prop) (hn : n ≤ l.length) (hD : Stable E) (h0 : E w)
    (h : wpL P l.toArray E al (fun D' a' => ∀ w', D' w' → wpList P l.toArray Q (l.drop n) a' w') (opsOf l (List.range n)) E a) : (Code.region id l.toArray false).wp P Q a w := by
  refine wp_region_lit ?_
  have := wpList_class (Q := Q) (l.drop n) (opsOf l (List.range n)) E a w (fun x hx => by simpa using opsOf_mem l _ x hx) hD (fun _ h => h) h0 h
  rwa [opsOf_all l n hn, List.take_append_drop] at this
/-- An operation that stands alone and yields one of a family of values. -/
theorem wpL_some {al : List Nat} {Q : (World → Prop) → Act → Prop} {o : Oper} {rest : List (Nat × Oper)} {k : Nat} {D : World → Prop} {a : Act} {X : Type} (u : X → Value) (hal : al.contains k = true)
    (hw : Region.wanted o (yielded ops a.tmps) = true) (hD : Stable D) (hE : ∀ w, D w → E w) (hy : ∀ w, D w → genAt P o a w fun v w' => (∃ x, v = u x) ∧ Below w.heap.size w w')
    (h : ∀ x, wpL P ops E al Q rest D (a.put o.dst (u x))) : wpL P ops E al Q ((k, o) :: rest) D a := by
  unfold wpL
  rw [if_pos hal]
  refine ⟨hw, X, u, fun _ => D, fun _ => ⟨hD, hE⟩, fun w hw' => ?_, h⟩
  have h1 := hy w hw'
  unfold genAt at h1 ⊢
  generalize (execOp a.eval o).run P w = r at *
  cases r with
  | ok n w' =>
    cases n <;> simp only [genUpon] at h1 ⊢
    case value v => exact ⟨h1.1.choose, h1.1.choose_spec, hD _ _ hw' h1.2⟩
    case skip => exact ⟨h1.1.choose, h1.1.choose_spec, hD _ _ hw' h1.2⟩
    case enter f args => exact h1.mono fun e w'' ⟨v', h3, h4, h5⟩ => ⟨v', h3, h4.choose, h4.choose_spec, hD _ _ hw' h5⟩
  | halt x w' => simp only [genUpon] at h1
end
theorem calls_same {P : Program} {f : FuncId} {args : Array Value} {w : World} {v : Value} (h : Calls P f args w fun e w' => e = .returned v ∧ w = w') : Calls P f args w fun e w' => e = .returned v ∧ Below w.heap.size w w' :=
  h.mono fun _ _ ⟨a, b⟩ => ⟨a, b ▸ Below.refl _ _⟩
end Go.Proofs.YteehpfccegnjjaaDoor
