/-
  Plain laws of the pairs of two proofs.
-/
import Derived.Test.YteehpfccegnjjaaDoorFromA
namespace Go.Proofs.YteehpfccegnjjaaDoor
open Go Go.RowKit
def sd (s : Bool) (x y : List UInt8) : List UInt8 × List UInt8 := if s then (x, y) else (y, x)
theorem sd_inj {s : Bool} {x y x' y' : List UInt8} (h : sd s x y = sd s x' y') : x = x' ∧ y = y' := by
  cases s
  · simp [sd] at h; exact ⟨h.2, h.1⟩
  · simpa [sd] using h
theorem climb_base (i n : Nat) (h2 : ¬ 2 ≤ n) : plong i n = 0 ∧ ∀ (leaf : List UInt8) (path : List (List UInt8)), (pclimb leaf i n path).1 = [] ∧ (pclimb leaf i n path).2.1 = leaf := by
  refine ⟨by rw [plong, if_neg h2], fun leaf path => ?_⟩
  rw [pclimb, if_neg h2]
  exact ⟨rfl, rfl⟩
theorem climb_step (i n : Nat) (h2 : 2 ≤ n) : ∃ i' n' s, n' < n ∧ 1 ≤ n' ∧ plong i n = plong i' n' + 1 ∧ ∀ (leaf : List UInt8) (path : List (List UInt8)), path.length = plong i n →
    (pclimb leaf i n path).1 = (pclimb leaf i' n' (path.take (plong i' n'))).1 ++ [sd s (pclimb leaf i' n' (path.take (plong i' n'))).2.1 (path.getD (plong i' n') [])] ∧
    (pclimb leaf i n path).2.1 = Sha.node (sd s (pclimb leaf i' n' (path.take (plong i' n'))).2.1 (path.getD (plong i' n') [])).1 (sd s (pclimb leaf i' n' (path.take (plong i' n'))).2.1 (path.getD (plong i' n') [])).2 := by
  have hp1 := lp_pos n
  have hp2 := lp_lt n h2
  by_cases hc : i < lp n
  · have e : plong i n = plong i (lp n) + 1 := by rw [plong, if_pos h2, if_pos hc, Nat.add_comm]
    refine ⟨i, lp n, true, hp2, hp1, e, fun leaf path hl => ?_⟩
    have hl1 : path.length - 1 = plong i (lp n) := by omega
    rw [pclimb, if_pos h2, if_neg (by omega), if_pos hc, hl1]
    exact ⟨rfl, rfl⟩
  · have e : plong i n = plong (i - lp n) (n - lp n) + 1 := by rw [plong, if_pos h2, if_neg hc, Nat.add_comm]
    refine ⟨i - lp n, n - lp n, false, by omega, by omega, e, fun leaf path hl => ?_⟩
    have hl1 : path.length - 1 = plong (i - lp n) (n - lp n) := by omega
    rw [pclimb, if_pos h2, if_neg (by omega), if_neg hc, hl1]
    exact ⟨rfl, rfl⟩
theorem pclimb_len (N : Nat) : ∀ (leaf : List UInt8) (i n : Nat) (path : List (List UInt8)), n ≤ N → path.length = plong i n → (pclimb leaf i n path).1.length = plong i n := by
  induction N with
  | zero => intro leaf i n path h hl; obtain ⟨a, b⟩ := climb_base i n (by omega); rw [(b leaf path).1, a]; rfl
  | succ N ih =>
    intro leaf i n path hN hl
    by_cases h2 : 2 ≤ n
    · obtain ⟨i', n', s, a, _, b, c⟩ := climb_step i n h2
      rw [(c leaf path hl).1, List.length_append, ih leaf i' n' _ (by omega) (by rw [List.length_take]; omega), b]
      rfl
    · obtain ⟨a, b⟩ := climb_base i n h2; rw [(b leaf path).1, a]; rfl
theorem pclimb_pairs (N : Nat) : ∀ (leaf : List UInt8) (i n : Nat) (path : List (List UInt8)), n ≤ N → path.length = plong i n → leaf.length = 32 → (∀ d ∈ path, d.length = 32) →
    ∀ p ∈ (pclimb leaf i n path).1, p.1.length = 32 ∧ p.2.length = 32 := by
  induction N with
  | zero => intro leaf i n path h hl hlf hall p hp; obtain ⟨a, b⟩ := climb_base i n (by omega); rw [(b leaf path).1] at hp; cases hp
  | succ N ih =>
    intro leaf i n path hN hl hlf hall p hp
    by_cases h2 : 2 ≤ n
    · obtain ⟨i', n', s, a, _, b, c⟩ := climb_step i n h2
      rw [(c leaf path hl).1] at hp
      have hd : (path.getD (plong i' n') []).length = 32 := by
        rw [List.getD_eq_getElem?_getD, List.getElem?_eq_getElem (by omega)]; exact hall _ (List.getElem_mem _)
      rcases List.mem_append.1 hp with h | h
      · exact ih leaf i' n' _ (by omega) (by rw [List.length_take]; omega) hlf (fun d hd => hall d (List.mem_of_mem_take hd)) p h
      · rw [List.mem_singleton] at h
        subst h
        have hr := pclimb_length leaf hlf i' n' (path.take (plong i' n'))
        cases s
        · exact ⟨hd, hr⟩
        · exact ⟨hr, hd⟩
    · obtain ⟨a, b⟩ := climb_base i n h2; rw [(b leaf path).1] at hp; cases hp
theorem getD_snoc_lt {α : Type} (l : List α) (x d : α) (j : Nat) (h : j < l.length) : (l ++ [x]).getD j d = l.getD j d := by
  rw [List.getD_eq_getElem?_getD, List.getD_eq_getElem?_getD, List.getElem?_append_left h]
theorem getD_snoc_eq {α : Type} (l : List α) (x d : α) (j : Nat) (h : j = l.length) : (l ++ [x]).getD j d = x := by
  subst h
  rw [List.getD_eq_getElem?_getD, List.getElem?_append_right (Nat.le_refl _)]; simp
/-- The greatest place below k at which two lists differ. -/
def scan (P Q : Pairs) : Nat → Option Nat
  | 0 => none
  | k + 1 => if P.getD k ([], []) = Q.getD k ([], []) then scan P Q k else some k
theorem scan_some (P Q : Pairs) : ∀ (k j : Nat), scan P Q k = some j → j < k ∧ P.getD j ([], []) ≠ Q.getD j ([], []) ∧ ∀ t, j < t → t < k → P.getD t ([], []) = Q.getD t ([], [])
  | 0, j, h => by cases h
  | k + 1, j, h => by
    rw [scan] at h
    split at h
    · rename_i he
      obtain ⟨a, b, c⟩ := scan_some P Q k j h
      exact ⟨by omega, b, fun t h1 h2 => by by_cases ht : t = k; · subst ht; exact he
                                            · exact c t h1 (by omega)⟩
    · rename_i he
      simp only [Option.some.injEq] at h
      subst h
      exact ⟨by omega, he, fun t h1 h2 => by omega⟩
theorem scan_none (P Q : Pairs) : ∀ (k : Nat), scan P Q k = none → ∀ t, t < k → P.getD t ([], []) = Q.getD t ([], [])
  | 0, _, t, h => by omega
  | k + 1, h, t, ht => by
    rw [scan] at h
    split at h
    · rename_i he
      by_cases hk : t = k
      · subst hk; exact he
      · exact scan_none P Q k h t (by omega)
    · cases h
theorem scan_self (P : Pairs) : ∀ (k : Nat), scan P P k = none
  | 0 => rfl
  | k + 1 => by rw [scan, if_pos rfl]; exact scan_self P k
theorem take_snoc (l : List (List UInt8)) (k : Nat) (h : l.length = k + 1) : l.take k ++ [l.getD k []] = l := by
  have e := List.take_succ_eq_append_getElem (l := l) (i := k) (by omega)
  rw [List.take_of_length_le (by omega)] at e
  rw [List.getD_eq_getElem?_getD, List.getElem?_eq_getElem (by omega)]
  exact e.symm
theorem climb_node (N : Nat) : ∀ (la lb : List UInt8) (i n : Nat) (p q : List (List UInt8)), n ≤ N → p.length = plong i n → q.length = plong i n → (pclimb la i n p).2.1 = (pclimb lb i n q).2.1 →
    ∀ j, j < plong i n → (∀ t, j < t → t < plong i n → (pclimb la i n p).1.getD t ([], []) = (pclimb lb i n q).1.getD t ([], [])) →
      Sha.node ((pclimb la i n p).1.getD j ([], [])).1 ((pclimb la i n p).1.getD j ([], [])).2 = Sha.node ((pclimb lb i n q).1.getD j ([], [])).1 ((pclimb lb i n q).1.getD j ([], [])).2 := by
  induction N with
  | zero => intro la lb i n p q h _ _ _ j hj; rw [(climb_base i n (by omega)).1] at hj; omega
  | succ N ih =>
    intro la lb i n p q hN hp hq hr j hj heq
    by_cases h2 : 2 ≤ n
    · obtain ⟨i', n', s, a, a1, b, c⟩ := climb_step i n h2
      obtain ⟨cp1, cp2⟩ := c la p hp
      obtain ⟨cq1, cq2⟩ := c lb q hq
      rw [cp2, cq2] at hr
      rw [cp1, cq1] at heq ⊢
      have lp1 := pclimb_len N la i' n' (p.take (plong i' n')) (by omega) (by rw [List.length_take]; omega)
      have lq1 := pclimb_len N lb i' n' (q.take (plong i' n')) (by omega) (by rw [List.length_take]; omega)
      by_cases hj2 : j = plong i' n'
      · rw [getD_snoc_eq _ _ _ _ (by omega), getD_snoc_eq _ _ _ _ (by omega)]
        exact hr
      · have h3 := heq (plong i' n') (by omega) (by omega)
        rw [getD_snoc_eq _ _ _ _ (by omega), getD_snoc_eq _ _ _ _ (by omega)] at h3
        rw [getD_snoc_lt _ _ _ _ (by omega), getD_snoc_lt _ _ _ _ (by omega)]
        refine ih la lb i' n' _ _ (by omega) (by rw [List.length_take]; omega) (by rw [List.length_take]; omega) (sd_inj h3).1 j (by omega) fun t h4 h5 => ?_
        have h6 := heq t h4 (by omega)
        rw [getD_snoc_lt _ _ _ _ (by omega), getD_snoc_lt _ _ _ _ (by omega)] at h6
        exact h6
    · rw [(climb_base i n h2).1] at hj; omega
theorem climb_inj (N : Nat) : ∀ (la lb : List UInt8) (i n : Nat) (p q : List (List UInt8)), n ≤ N → p.length = plong i n → q.length = plong i n → (pclimb la i n p).2.1 = (pclimb lb i n q).2.1 →
    (∀ t, t < plong i n → (pclimb la i n p).1.getD t ([], []) = (pclimb lb i n q).1.getD t ([], [])) → la = lb ∧ p = q := by
  have base : ∀ (la lb : List UInt8) (i n : Nat) (p q : List (List UInt8)), ¬ 2 ≤ n → p.length = plong i n → q.length = plong i n → (pclimb la i n p).2.1 = (pclimb lb i n q).2.1 → la = lb ∧ p = q := by
    intro la lb i n p q h2 hp hq hr
    obtain ⟨a, b⟩ := climb_base i n h2
    rw [(b la p).2, (b lb q).2] at hr
    rw [a] at hp hq
    exact ⟨hr, (List.eq_nil_of_length_eq_zero hp).trans (List.eq_nil_of_length_eq_zero hq).symm⟩
  induction N with
  | zero => intro la lb i n p q h hp hq hr _; exact base la lb i n p q (by omega) hp hq hr
  | succ N ih =>
    intro la lb i n p q hN hp hq hr heq
    by_cases h2 : 2 ≤ n
    · obtain ⟨i', n', s, a, a1, b, c⟩ := climb_step i n h2
      obtain ⟨cp1, cp2⟩ := c la p hp
      obtain ⟨cq1, cq2⟩ := c lb q hq
      rw [cp1, cq1] at heq
      have lp1 := pclimb_len N la i' n' (p.take (plong i' n')) (by omega) (by rw [List.length_take]; omega)
      have lq1 := pclimb_len N lb i' n' (q.take (plong i' n')) (by omega) (by rw [List.length_take]; omega)
      have h3 := heq (plong i' n') (by omega)
      rw [getD_snoc_eq _ _ _ _ (by omega), getD_snoc_eq _ _ _ _ (by omega)] at h3
      obtain ⟨h4, h5⟩ := sd_inj h3
      obtain ⟨e1, e2⟩ := ih la lb i' n' (p.take (plong i' n')) (q.take (plong i' n')) (by omega) (by rw [List.length_take]; omega) (by rw [List.length_take]; omega) h4 fun t ht => by
        have h6 := heq t (by omega)
        rw [getD_snoc_lt _ _ _ _ (by omega), getD_snoc_lt _ _ _ _ (by omega)] at h6
        exact h6
      refine ⟨e1, ?_⟩
      rw [← take_snoc p (plong i' n') (by omega), ← take_snoc q (plong i' n') (by omega), e2, h5]
    · exact base la lb i n p q h2 hp hq hr
theorem join2_inj (a b c d : List UInt8) (ha : a.length = 32) (hb : b.length = 32) (hc : c.length = 32) (hd : d.length = 32) (h : Sha.join 1 [a, b] = Sha.join 1 [c, d]) : a = c ∧ b = d := by
  simp only [Sha.join, Sha.parts, List.flatMap_cons, List.flatMap_nil, List.append_nil, List.cons.injEq, true_and, ha, hb, hc, hd, List.append_assoc] at h
  have h1 := List.append_cancel_left h.2
  obtain ⟨e1, e2⟩ := List.append_inj h1 (ha.trans hc.symm)
  exact ⟨e1, List.append_cancel_left e2⟩
theorem two300 {a b : List UInt8} (ha : a.length = 32) (hb : b.length = 32) : ∀ x ∈ [a, b], x.length ≤ 300 := by
  intro x hx
  simp only [List.mem_cons, List.not_mem_nil, or_false] at hx
  rcases hx with rfl | rfl <;> omega
/-- What Collision answers. -/
def collS (i n : Int) (la : List UInt8) (p : List (List UInt8)) (lb : List UInt8) (q : List (List UInt8)) : List UInt8 × List UInt8 × Bool :=
  if (fromS la i n p).2 ≠ 0 ∨ (fromS lb i n q).2 ≠ 0 ∨ (fromS la i n p).1 ≠ (fromS lb i n q).1 then ([], [], false)
  else match scan (pclimb la i.toNat n.toNat p).1 (pclimb lb i.toNat n.toNat q).1 (pclimb la i.toNat n.toNat p).1.length with
    | none => ([], [], false)
    | some k => (Sha.join 1 [((pclimb la i.toNat n.toNat p).1.getD k ([], [])).1, ((pclimb la i.toNat n.toNat p).1.getD k ([], [])).2],
        Sha.join 1 [((pclimb lb i.toNat n.toNat q).1.getD k ([], [])).1, ((pclimb lb i.toNat n.toNat q).1.getD k ([], [])).2], true)
theorem fromS_ok {la : List UInt8} {i n : Int} {p : List (List UInt8)} (h : (fromS la i n p).2 = 0) :
    1 ≤ n ∧ n ≤ 1048576 ∧ 0 ≤ i ∧ i < n ∧ p.length = plong i.toNat n.toNat ∧ (fromS la i n p).1 = (pclimb la i.toNat n.toNat p).2.1 ∧ (pclimb la i.toNat n.toNat p).2.2 = false := by
  unfold fromS at h ⊢
  split at h
  · simp at h
  · rename_i hb
    rw [if_neg hb]
    split at h
    · rename_i hl
      rw [if_pos hl]
      have := (climb_from n.toNat la i.toNat n.toNat p (Nat.le_refl _) (by omega)).1 hl
      rw [this]
      exact ⟨by omega, by omega, by omega, by omega, hl, rfl, rfl⟩
    · simp at h
theorem collS_self (i n : Int) (la : List UInt8) (p : List (List UInt8)) : collS i n la p la p = ([], [], false) := by
  unfold collS
  split
  · rfl
  · rw [scan_self]
theorem collS_not (i n : Int) (la lb : List UInt8) (p q : List (List UInt8)) (h : (fromS la i n p).2 ≠ 0 ∨ (fromS lb i n q).2 ≠ 0 ∨ (fromS la i n p).1 ≠ (fromS lb i n q).1) : collS i n la p lb q = ([], [], false) := by
  unfold collS
  rw [if_pos h]
theorem collS_yes (i n : Int) (la lb : List UInt8) (p q : List (List UInt8)) (hla : la.length = 32) (hlb : lb.length = 32) (hpa : ∀ d ∈ p, d.length = 32) (hqa : ∀ d ∈ q, d.length = 32)
    (h1 : (fromS la i n p).2 = 0) (h2 : (fromS lb i n q).2 = 0) (h3 : (fromS la i n p).1 = (fromS lb i n q).1) (hne : ¬ (la = lb ∧ p = q)) :
    ∃ x y, collS i n la p lb q = (x, y, true) ∧ x ≠ y ∧ Sha.sum x = Sha.sum y ∧ x.length ≤ 610 ∧ y.length ≤ 610 := by
  obtain ⟨a1, a2, a3, a4, a5, a6, _⟩ := fromS_ok h1
  obtain ⟨b1, b2, b3, b4, b5, b6, _⟩ := fromS_ok h2
  have hr : (pclimb la i.toNat n.toNat p).2.1 = (pclimb lb i.toNat n.toNat q).2.1 := by rw [← a6, ← b6, h3]
  have lp1 := pclimb_len n.toNat la i.toNat n.toNat p (Nat.le_refl _) a5
  have lq1 := pclimb_len n.toNat lb i.toNat n.toNat q (Nat.le_refl _) b5
  have hin := climb_inj n.toNat la lb i.toNat n.toNat p q (Nat.le_refl _) a5 b5 hr
  have hno := climb_node n.toNat la lb i.toNat n.toNat p q (Nat.le_refl _) a5 b5 hr
  have hpp := pclimb_pairs n.toNat la i.toNat n.toNat p (Nat.le_refl _) a5 hla hpa
  have hpq := pclimb_pairs n.toNat lb i.toNat n.toNat q (Nat.le_refl _) b5 hlb hqa
  unfold collS
  rw [if_neg (by simp [h1, h2, h3])]
  generalize (pclimb la i.toNat n.toNat p).1 = P at *
  generalize (pclimb lb i.toNat n.toNat q).1 = Q at *
  cases hs : scan P Q P.length with
  | none =>
    have := scan_none P Q P.length hs
    rw [lp1] at this
    exact absurd (hin this) hne
  | some k =>
    obtain ⟨c1, c2, c3⟩ := scan_some P Q P.length k hs
    have hP := hpp (P.getD k ([], [])) (by rw [List.getD_eq_getElem?_getD, List.getElem?_eq_getElem c1]; exact List.getElem_mem _)
    have hQ := hpq (Q.getD k ([], [])) (by rw [List.getD_eq_getElem?_getD, List.getElem?_eq_getElem (by omega)]; exact List.getElem_mem _)
    refine ⟨_, _, rfl, fun h => ?_, hno k (by omega) (fun t h4 h5 => c3 t h4 (by omega)), join_len 1 _ (by simp) (two300 hP.1 hP.2), join_len 1 _ (by simp) (two300 hQ.1 hQ.2)⟩
    obtain ⟨e1, e2⟩ := join2_inj _ _ _ _ hP.1 hP.2 hQ.1 hQ.2 h
    exact c2 (Prod.ext e1 e2)
end Go.Proofs.YteehpfccegnjjaaDoor
