/-
  A region that draws its order, walked once, in an order of the prover's choice, over classes of worlds: operations that yield one value in every world of a wide class and add at most new blocks; operations that stand alone when they come up, which may do what they like; and a forced tail.
-/
import Derived.Deep.QuietTactic
import Derived.StillTailTactics
import Derived.Test.YteehpfccegnjjaaDoorLog
namespace Go.Proofs.YteehpfccegnjjaaDoor
open Go Go.RowKit

section
variable {P : Program} {ops : Array Oper} {md : Region.Mode}

/-- The class is closed under whatever only adds blocks. -/
def Stable (D : World → Prop) : Prop := ∀ w w', D w → Below w.heap.size w w' → D w'
def Fresh (g : Nat) (ob : Obj) (w : World) : Prop := g < w.heap.size ∧ w.heap[g]? = some ob
theorem Stable.fresh {D : World → Prop} (h : Stable D) (g : Nat) (ob : Obj) : Stable (fun w => D w ∧ Fresh g ob w) := fun w w' ⟨h1, h2, h3⟩ hb =>
  ⟨h w w' h1 hb, Nat.lt_of_lt_of_le h2 hb.size, (hb.block g h2).trans h3⟩
theorem Stable.below (w0 : World) : Stable (Below w0.heap.size w0) := fun _ _ h hb => h.trans (hb.mono h.size)
theorem below_alloc (w : World) (ob : Obj) : Below w.heap.size w (w.alloc ob) := (Below.refl _ _).alloc (Nat.le_refl _) _

theorem upon_mono {C C' : World → Prop} {w : World} {v : Value} {r : Result Next} (hC : ∀ w', C w' → C' w') (h : Oper.quietUpon P C w v r) : Oper.quietUpon P C' w v r := by
  cases r with
  | ok n w' =>
    cases n <;> simp only [Oper.quietUpon] at h ⊢
    case value u => exact h
    case skip => exact h
    case enter f args => exact ⟨h.1, h.2.mono fun _ _ ⟨a, b⟩ => ⟨a, hC _ b⟩⟩
  | halt x w' => simp only [Oper.quietUpon] at h

/-- In every world of the class the operation yields v and adds at most blocks. -/
def yB (P : Program) (o : Oper) (a : Act) (D : World → Prop) (v : Value) : Prop := ∀ w, D w → o.quietAt P a (fun w' => Below w.heap.size w w') w v
def YB (P : Program) (ops : Array Oper) (D : World → Prop) (o : Oper) (v : Value) (a : Act) : Prop :=
  (Region.wanted o (yielded ops a.tmps) = true ∧ yB P o a D v) ∨ (Region.wanted o (yielded ops a.tmps) = false ∧ v = undef)
/-- What an operation that stands alone leaves: its value and its world. -/
def genUpon (P : Program) (R : Value → World → Prop) : Result Next → Prop
  | .ok (.value v) w' => R v w'
  | .ok .skip w' => R undef w'
  | .ok (.enter f args) w' => Calls P f args w' fun e w'' => ∃ v, e = .returned v ∧ R v w''
  | _ => False
def genAt (P : Program) (o : Oper) (a : Act) (w : World) (R : Value → World → Prop) : Prop := genUpon P R ((execOp a.eval o).run P w)

theorem YB.sub {D D' : World → Prop} {o : Oper} {v : Value} {a : Act} (h : YB P ops D o v a) (hs : ∀ w, D' w → D w) : YB P ops D' o v a :=
  h.imp (fun ⟨h1, h2⟩ => ⟨h1, fun w hw => h2 w (hs w hw)⟩) id
theorem YB.same {D : World → Prop} {o : Oper} {v : Value} {a a' : Act} (h : YB P ops D o v a) (he : execOp a'.eval o = execOp a.eval o)
    (hw : Region.wanted o (yielded ops a'.tmps) = Region.wanted o (yielded ops a.tmps)) : YB P ops D o v a' := by
  unfold YB yB Oper.quietAt at *
  rw [he, hw]
  exact h

def opW (P : Program) (ops : Array Oper) (E : World → Prop) (i : Nat) (K : (World → Prop) → Act → Prop) (D : World → Prop) (a : Act) : Prop :=
  ∃ o, ops[i]? = some o ∧ ((∃ v, YB P ops E o v a ∧ K D (a.put o.dst v)) ∨
    (Region.wanted o (yielded ops a.tmps) = true ∧ ∃ (X : Type) (u : X → Value) (Dx : X → World → Prop), (∀ x, Stable (Dx x) ∧ ∀ w, Dx x w → E w) ∧
      (∀ w, D w → genAt P o a w fun v w' => ∃ x, v = u x ∧ Dx x w') ∧ ∀ x, K (Dx x) (a.put o.dst (u x))))

variable {E : World → Prop}

theorem opW_mono {i : Nat} {K K' : (World → Prop) → Act → Prop} {D : World → Prop} {a : Act} (h : ∀ D a, K D a → K' D a) (hh : opW P ops E i K D a) : opW P ops E i K' D a := by
  obtain ⟨o, ho, ⟨v, h1, h2⟩ | ⟨hw, X, u, Dx, h0, h1, h2⟩⟩ := hh
  · exact ⟨o, ho, .inl ⟨v, h1, h _ _ h2⟩⟩
  · exact ⟨o, ho, .inr ⟨hw, X, u, Dx, h0, h1, fun x => h _ _ (h2 x)⟩⟩

theorem wpOp_of_opW {i : Nat} {K : (World → Prop) → Act → Prop} {K' : Act → World → Prop} {Q' : Exit → Act → World → Prop} {D : World → Prop} {a : Act} {w : World} (hD : Stable D) (hE : ∀ w, D w → E w) (hw : D w)
    (h : ∀ D' a' w', Stable D' → (∀ w, D' w → E w) → D' w' → K D' a' → K' a' w') (hh : opW P ops E i K D a) : wpOp P ops Q' i K' a w := by
  obtain ⟨o, ho, ⟨v, h1, h2⟩ | ⟨hwant, X, u, Dx, h0, h1, h2⟩⟩ := hh
  · have hy : YieldsIn P ops D o v a := h1.imp (fun ⟨e1, e2⟩ => ⟨e1, fun w1 hw1 => upon_mono (fun w' hb => hD _ _ hw1 hb) (e2 w1 (hE _ hw1))⟩) id
    exact wpOp_of_qOp hw (fun a' w' hw' hk => h D a' w' hD hE hw' hk) (hy.qOp ho h2)
  · unfold wpOp
    simp only [ho, hwant, if_true]
    refine .inl ?_
    have h3 := h1 w hw
    unfold genAt at h3
    unfold Oper.wp
    generalize (execOp a.eval o).run P w = r at *
    cases r with
    | ok n w' =>
      cases n <;> simp only [genUpon] at h3 <;> simp only [Oper.upon]
      case value v =>
        obtain ⟨x, rfl, hx⟩ := h3
        exact h _ _ _ (h0 x).1 (h0 x).2 hx (h2 x)
      case skip =>
        obtain ⟨x, e, hx⟩ := h3
        have := h2 x
        rw [← e] at this
        exact h _ _ _ (h0 x).1 (h0 x).2 hx this
      case enter f args =>
        refine h3.mono fun e w'' he => ?_
        obtain ⟨v, rfl, x, rfl, hx⟩ := he
        exact h _ _ _ (h0 x).1 (h0 x).2 hx (h2 x)
    | halt x w' => simp only [genUpon] at h3

theorem opW_put {j : Nat} {oi oj : Oper} {v : Value} (hj : ops[j]? = some oj) (hap : oi.apart ops oj = true)
    (hsi : ∀ cs b, oi.op ≠ .select cs b) (hsj : ∀ cs b, oj.op ≠ .select cs b) {K : (World → Prop) → Act → Prop} {D : World → Prop} {a : Act}
    (hy : YB P ops E oi v a) (h : opW P ops E j K D (a.put oi.dst v)) :
    opW P ops E j (fun D' a' => YB P ops E oi v a' ∧ K D' (a'.put oi.dst v)) D a := by
  obtain ⟨p1, p2, p3⟩ := Oper.apart_spec hap
  have keep : ∀ u, YB P ops E oi v (a.put oj.dst u) := fun u =>
    hy.same (execOp_put oi hsi a oj.dst u p3) (wanted_put oi a oj.dst u p3)
  obtain ⟨o, ho, hh⟩ := h
  obtain rfl : oj = o := Option.some.inj (hj.symm.trans ho)
  refine ⟨oj, hj, ?_⟩
  have ex := execOp_put oj hsj a oi.dst v p1
  have wa := wanted_put (ops := ops) oj a oi.dst v p1
  rcases hh with ⟨u, h1, h2⟩ | ⟨hwant, X, u, Dx, h0, h1, h2⟩
  · exact .inl ⟨u, h1.same ex.symm wa.symm, keep _, by rw [← Act.put_comm a v u p2]; exact h2⟩
  · refine .inr ⟨by rw [← wa]; exact hwant, X, u, Dx, h0, fun w hw => by have := h1 w hw; unfold genAt at *; rw [← ex]; exact this, fun x => ⟨keep _, ?_⟩⟩
    rw [← Act.put_comm a v (u x) p2]
    exact h2 x

def wpW (P : Program) (md : Region.Mode) (ops : Array Oper) (E : World → Prop) (n : Nat) (L : (World → Prop) → Array Bool → Act → Prop) : Nat → (World → Prop) → Array Bool → Act → Prop
  | 0, D, listed, a => L D listed a
  | f + 1, D, listed, a => Region.ready md ops listed ≠ [] ∧ ∀ i ∈ Region.ready md ops listed, i < n ∧ opW P ops E i (fun D' a' => wpW P md ops E n L f D' (listed.setIfInBounds i true) a') D a

theorem wpAny_of_W {n g : Nat} {L : (World → Prop) → Array Bool → Act → Prop} {Q' : Exit → Act → World → Prop} (hL : ∀ D listed a w, D w → L D listed a → wpAny P md ops Q' g listed a w) :
    ∀ (f : Nat) (D : World → Prop) (listed : Array Bool) (a : Act) (w : World), Stable D → (∀ w, D w → E w) → D w → wpW P md ops E n L f D listed a → wpAny P md ops Q' (f + g) listed a w
  | 0, D, listed, a, w, _, _, hw, h => by rw [Nat.zero_add]; exact hL D _ _ w hw h
  | f + 1, D, listed, a, w, hD, hE, hw, h => by
    rw [show f + 1 + g = (f + g) + 1 by omega]
    exact ⟨fun h0 => absurd h0 h.1, fun i hi => wpOp_of_opW hD hE hw (fun D' a' w' hD' hE' hw' h' => wpAny_of_W hL f D' _ a' w' hD' hE' hw' h') (h.2 i hi).2⟩

theorem wpW_first {n i : Nat} {oi : Oper} {v : Value} {L : (World → Prop) → Array Bool → Act → Prop} (hi : ops[i]? = some oi) (hsel : ∀ (j : Nat) (o : Oper) cs b, ops[j]? = some o → o.op ≠ .select cs b)
    (hs : Region.sinkB md ops n = true) (hc : Region.chainB md ops n = true) (hn : n < ops.size) (hin : i < n)
    (hdone : ∀ D listed a, L D listed a → ∀ j ∈ Region.ready md ops listed, n ≤ j) (f : Nat) : ∀ (D : World → Prop) (listed : Array Bool) (a : Act), HeadInv md ops n listed →
      (∀ j oj, ops[j]? = some oj → j ≠ i → listed.getD j true = false → (∀ e ∈ oj.after, Region.binds md e = true → e.on ≠ i) → oi.apart ops oj = true) →
      i ∈ Region.ready md ops listed → YB P ops E oi v a →
      wpW P md ops E n L f D (listed.setIfInBounds i true) (a.put oi.dst v) → wpW P md ops E n L (f + 1) D listed a := by
  induction f with
  | zero =>
    intro D listed a inv _ hr hy H
    have hun := (mem_ready.1 hr).1
    refine ⟨fun h => (by rw [h] at hr; cases hr), fun j hj => ?_⟩
    have hjn : j < n := Nat.lt_of_not_le fun h => tail_waits hs hc hn inv _ i rfl hin hun j h hj
    refine ⟨hjn, ?_⟩
    by_cases hji : j = i
    · subst hji; exact ⟨oi, hi, .inl ⟨v, hy, H⟩⟩
    · have := hdone _ _ _ H j (ready_mono hj hji)
      omega
  | succ f ih =>
    intro D listed a inv hfree hr hy H
    have hun := (mem_ready.1 hr).1
    refine ⟨fun h => (by rw [h] at hr; cases hr), fun j hj => ?_⟩
    have hjn : j < n := Nat.lt_of_not_le fun h => tail_waits hs hc hn inv _ i rfl hin hun j h hj
    refine ⟨hjn, ?_⟩
    by_cases hji : j = i
    · subst hji; exact ⟨oi, hi, .inl ⟨v, hy, H⟩⟩
    obtain ⟨hjun, oj, hoj, hall⟩ := mem_ready.1 hj
    have hnot : ∀ e ∈ oj.after, Region.binds md e = true → e.on ≠ i := fun e he hb heq => by
      have h1 := hall e he hb
      rw [heq, getD_both hun] at h1
      cases h1
    have h2 := opW_put hoj (hfree j oj hoj hji hjun hnot) (fun cs b => hsel i oi cs b hi) (fun cs b => hsel j oj cs b hoj) hy (H.2 j (ready_mono hj hji)).2
    refine opW_mono (fun D' a' h3 => ih D' (listed.setIfInBounds j true) a' (inv.set hj hjn) (fun k ok hk hki hun hno => ?_) (ready_mono hr (Ne.symm hji)) h3.1 ?_) h2
    · refine hfree k ok hk hki ?_ hno
      by_cases hjk : j = k
      · subst hjk; exact hjun
      · rw [getD_set_ne true hjk] at hun; exact hun
    · rw [Array.setIfInBounds_comm _ _ hji]
      exact h3.2

/-- The walk, in the order of the list; 'al': the numbers of the operations that stand alone when they come up. -/
def wpL (P : Program) (ops : Array Oper) (E : World → Prop) (al : List Nat) (Q : (World → Prop) → Act → Prop) : List (Nat × Oper) → (World → Prop) → Act → Prop
  | [], D, a => Q D a
  | (k, o) :: rest, D, a => if al.contains k
      then Region.wanted o (yielded ops a.tmps) = true ∧ ∃ (X : Type) (u : X → Value) (Dx : X → World → Prop), (∀ x, Stable (Dx x) ∧ ∀ w, Dx x w → E w) ∧
        (∀ w, D w → genAt P o a w fun v w' => ∃ x, v = u x ∧ Dx x w') ∧ ∀ x, wpL P ops E al Q rest (Dx x) (a.put o.dst (u x))
      else ∃ v, YB P ops E o v a ∧ wpL P ops E al Q rest D (a.put o.dst v)

def lexA (md : Region.Mode) (ops : Array Oper) (al : List Nat) (n : Nat) : List Nat → Array Bool → Bool
  | [], listed => Region.seqB md ops (ops.size - n) n listed
  | k :: l, listed => decide (k < n) && (if al.contains k then decide (Region.ready md ops listed = [k]) else (Region.ready md ops listed).contains k && Region.free md ops listed k) && lexA md ops al n l (listed.setIfInBounds k true)

def tailA (md : Region.Mode) (ops : Array Oper) (al : List Nat) (ord : List Nat) (n : Nat) : Bool :=
  Region.noSelect ops && decide (n < ops.size) && decide (ord.length = n) && Region.sinkB md ops n && Region.chainB md ops n && lexA md ops al n ord (Array.replicate ops.size false)

theorem wpW_lex {n : Nat} {al : List Nat} {Lq : (World → Prop) → Act → Prop} (hsel : Region.noSelect ops = true) (hs : Region.sinkB md ops n = true) (hc : Region.chainB md ops n = true) (hn : n < ops.size) :
    ∀ (l : List (Nat × Oper)) (D : World → Prop) (listed : Array Bool) (a : Act), (∀ x ∈ l, ops[x.1]? = some x.2) → HeadInv md ops n listed →
    lexA md ops al n (l.map (·.1)) listed = true → wpL P ops E al Lq l D a →
    wpW P md ops E n (fun D' listed' a' => Region.seqB md ops (ops.size - n) n listed' = true ∧ Lq D' a') l.length D listed a
  | [], D, listed, a, _, _, hB, h => ⟨by simpa [lexA] using hB, h⟩
  | (k, o) :: l, D, listed, a, hl, inv, hB, h => by
    have h0 : ops[k]? = some o := hl (k, o) (by simp)
    have hl' : ∀ x ∈ l, ops[x.1]? = some x.2 := fun x hx => hl x (by simp [hx])
    simp only [List.map_cons, lexA, Bool.and_eq_true, decide_eq_true_eq] at hB
    obtain ⟨⟨hkn, hr⟩, hB'⟩ := hB
    unfold wpL at h
    by_cases hal : al.contains k = true
    · rw [if_pos hal] at h hr
      have hr := of_decide_eq_true hr
      obtain ⟨hw, X, u, Dx, h1, h2, h3⟩ := h
      refine ⟨by rw [hr]; simp, fun i hi => ?_⟩
      have hr' := hi
      rw [hr] at hi
      obtain rfl : i = k := by simpa using hi
      exact ⟨hkn, o, h0, .inr ⟨hw, X, u, Dx, h1, h2, fun x => wpW_lex hsel hs hc hn l _ _ _ hl' (inv.set hr' hkn) hB' (h3 x)⟩⟩
    · rw [if_neg hal] at h hr
      simp only [Bool.and_eq_true] at hr
      have hr' : k ∈ Region.ready md ops listed := by simpa using hr.1
      obtain ⟨v, h1, h2⟩ := h
      exact wpW_first h0 (Region.noSelect_spec hsel) hs hc hn hkn (fun _ _ _ hL => seqB_ready hL.1) l.length D listed a inv (Region.free_spec h0 hr.2) hr' h1
        (wpW_lex hsel hs hc hn l _ _ _ hl' (inv.set hr' hkn) hB' h2)

def opsOf (l : List Oper) : List Nat → List (Nat × Oper)
  | [] => []
  | k :: r => match l[k]? with
    | some o => (k, o) :: opsOf l r
    | none => opsOf l r
theorem opsOf_mem (l : List Oper) : ∀ (ord : List Nat), ∀ x ∈ opsOf l ord, l[x.1]? = some x.2
  | [], x, hx => by simp [opsOf] at hx
  | k :: r, x, hx => by
    unfold opsOf at hx
    split at hx
    · rename_i o ho
      rcases List.mem_cons.1 hx with rfl | hx
      · exact ho
      · exact opsOf_mem l r x hx
    · exact opsOf_mem l r x hx
theorem opsOf_map (l : List Oper) : ∀ (ord : List Nat), (∀ k ∈ ord, k < l.length) → (opsOf l ord).map (·.1) = ord
  | [], _ => rfl
  | k :: r, h => by
    have hk := h k (by simp)
    simp only [opsOf, List.getElem?_eq_getElem hk, List.map_cons]
    rw [opsOf_map l r (fun x hx => h x (by simp [hx]))]
theorem lexA_lt {al : List Nat} {n : Nat} : ∀ (ord : List Nat) (listed : Array Bool), lexA md ops al n ord listed = true → ∀ k ∈ ord, k < n
  | [], _, _, _, hx => by simp at hx
  | k :: l, listed, h, x, hx => by
    simp only [lexA, Bool.and_eq_true, decide_eq_true_eq] at h
    rcases List.mem_cons.1 hx with rfl | hx
    · exact h.1.1
    · exact lexA_lt l _ h.2 x hx

/-- The law: from the class that the world behind the draw belongs to. -/
theorem wp_region_class2 {id : Nat} {Q : Exit → Act → World → Prop} {a : Act} {w : World} {l : List Oper} (n : Nat) (al ord : List Nat) (E D : World → Prop) (hD : Stable D) (hE : ∀ w, D w → E w) (h0 : D { w with drawn := w.drawn + 1 })
    (hm : P.follows .mixedOrders = true) (hB : tailA .any l.toArray al ord n = true)
    (h : wpL P l.toArray E al (fun D' a' => ∀ w', D' w' → wpList P l.toArray Q (l.drop n) a' w') (opsOf l ord) D a) : (Code.region id l.toArray true).wp P Q a w := by
  simp only [tailA, Bool.and_eq_true, decide_eq_true_eq] at hB
  obtain ⟨⟨⟨⟨⟨hsel, hn⟩, hlen⟩, hs⟩, hc⟩, hlex⟩ := hB
  have inv0 : HeadInv .any l.toArray n (Array.replicate l.toArray.size false) :=
    ⟨by simp, fun j oj _ hl => (by rw [getD_replicate_false] at hl; cases hl), fun t _ ht => getD_in (by simpa using ht) (getD_replicate_false _ _)⟩
  have hmap : (opsOf l ord).map (·.1) = ord := opsOf_map l ord fun k hk => by
    have := lexA_lt ord _ hlex k hk
    simp at hn
    omega
  have htl : (opsOf l ord).length = n := by rw [← hlen, ← List.length_map (f := (·.1)), hmap]
  have H := wpW_lex (md := .any) hsel hs hc hn (opsOf l ord) D _ a (fun x hx => by simpa using opsOf_mem l ord x hx) inv0 (by rw [hmap]; exact hlex) h
  refine wp_region_any hm ?_
  have := wpAny_of_W (Q' := Q) (g := l.toArray.size - n) (fun D' listed a' w' hw' hL => by
    have e : (l.drop n).length = l.toArray.size - n := by simp
    have := wpAny_of_seq (md := .any) (Q' := Q) (l.drop n) n listed a' w' (fun j => by simp [List.getElem?_drop]) (by rw [e]; exact hL.1) (hL.2 w' hw')
    rwa [e] at this) _ D _ _ _ hD hE h0 H
  rw [htl, show n + (l.toArray.size - n) = l.toArray.size by omega] at this
  exact this

theorem wp_region_class {id : Nat} {Q : Exit → Act → World → Prop} {a : Act} {w : World} {l : List Oper} (n : Nat) (al ord : List Nat) (E : World → Prop) (hD : Stable E) (h0 : E { w with drawn := w.drawn + 1 })
    (hm : P.follows .mixedOrders = true) (hB : tailA .any l.toArray al ord n = true)
    (h : wpL P l.toArray E al (fun D' a' => ∀ w', D' w' → wpList P l.toArray Q (l.drop n) a' w') (opsOf l ord) E a) : (Code.region id l.toArray true).wp P Q a w :=
  wp_region_class2 n al ord E E hD (fun _ h => h) h0 hm hB h

theorem wpL_nil {al : List Nat} {Q : (World → Prop) → Act → Prop} {D : World → Prop} {a : Act} (h : Q D a) : wpL P ops E al Q [] D a := h
theorem wpL_val {al : List Nat} {Q : (World → Prop) → Act → Prop} {o : Oper} {rest : List (Nat × Oper)} {k : Nat} {D : World → Prop} {a : Act} (v : Value) (hal : al.contains k = false)
    (hw : Region.wanted o (yielded ops a.tmps) = true) (hy : ∀ w, E w → o.quietAt P a (fun w' => Below w.heap.size w w') w v) (h : wpL P ops E al Q rest D (a.put o.dst v)) : wpL P ops E al Q ((k, o) :: rest) D a := by
  unfold wpL
  rw [if_neg (by rw [hal]; exact Bool.false_ne_true)]
  exact ⟨v, .inl ⟨hw, hy⟩, h⟩
/-- An operation that is not wanted. -/
theorem wpL_skip {al : List Nat} {Q : (World → Prop) → Act → Prop} {o : Oper} {rest : List (Nat × Oper)} {k : Nat} {D : World → Prop} {a : Act} (hal : al.contains k = false)
    (hw : Region.wanted o (yielded ops a.tmps) = false) (h : wpL P ops E al Q rest D (a.put o.dst undef)) : wpL P ops E al Q ((k, o) :: rest) D a := by
  unfold wpL
  rw [if_neg (by rw [hal]; exact Bool.false_ne_true)]
  exact ⟨undef, .inr ⟨hw, rfl⟩, h⟩
theorem wpL_new {al : List Nat} {Q : (World → Prop) → Act → Prop} {o : Oper} {rest : List (Nat × Oper)} {k : Nat} {D : World → Prop} {a : Act} (u : Nat → Value) (ob : Obj) (hal : al.contains k = true)
    (hw : Region.wanted o (yielded ops a.tmps) = true) (hD : Stable D) (hE : ∀ w, D w → E w) (hy : ∀ w, D w → (execOp a.eval o).run P w = .ok (.value (u w.heap.size)) (w.alloc ob))
    (h : ∀ g, (∃ w, D w ∧ w.heap.size = g) → wpL P ops E al Q rest (fun w => D w ∧ Fresh g ob w) (a.put o.dst (u g))) : wpL P ops E al Q ((k, o) :: rest) D a := by
  unfold wpL
  rw [if_pos hal]
  refine ⟨hw, { g : Nat // ∃ w, D w ∧ w.heap.size = g }, fun x => u x.1, fun x w => D w ∧ Fresh x.1 ob w, fun x => ⟨hD.fresh _ _, fun w h => hE w h.1⟩, fun w hw' => ?_, fun x => h x.1 x.2⟩
  unfold genAt
  rw [hy w hw']
  exact ⟨⟨w.heap.size, w, hw', rfl⟩, rfl, hD _ _ hw' (below_alloc _ _), by simp, heap_alloc_new _ _⟩
/-- A value that hangs on what the narrow class knows. -/
theorem wpL_one {al : List Nat} {Q : (World → Prop) → Act → Prop} {o : Oper} {rest : List (Nat × Oper)} {k : Nat} {D : World → Prop} {a : Act} (v : Value) (hal : al.contains k = true)
    (hw : Region.wanted o (yielded ops a.tmps) = true) (hD : Stable D) (hE : ∀ w, D w → E w) (hy : ∀ w, D w → o.quietAt P a (fun w' => Below w.heap.size w w') w v)
    (h : wpL P ops E al Q rest D (a.put o.dst v)) : wpL P ops E al Q ((k, o) :: rest) D a := by
  unfold wpL
  rw [if_pos hal]
  refine ⟨hw, Unit, fun _ => v, fun _ => D, fun _ => ⟨hD, hE⟩, fun w hw' => ?_, fun _ => h⟩
  have h1 := hy w hw'
  unfold Oper.quietAt at h1
  unfold genAt
  generalize (execOp a.eval o).run P w = r at *
  cases r with
  | ok n w' =>
    cases n <;> simp only [Oper.quietUpon] at h1 <;> simp only [genUpon]
    case value u => exact ⟨(), h1.2, by rw [h1.1]; exact hw'⟩
    case skip => exact ⟨(), h1.2.symm, by rw [h1.1]; exact hw'⟩
    case enter f args =>
      obtain ⟨e1, h2⟩ := h1
      subst e1
      exact h2.mono fun e w'' he => ⟨v, he.1, (), rfl, hD _ _ hw' he.2⟩
  | halt x w' => simp only [Oper.quietUpon] at h1
/-- An operation that leaves no value and turns the world, from class to class. -/
theorem wpL_turn {al : List Nat} {Q : (World → Prop) → Act → Prop} {o : Oper} {rest : List (Nat × Oper)} {k : Nat} {D : World → Prop} {a : Act} (D2 : World → Prop) (v : Value) (hal : al.contains k = true)
    (hw : Region.wanted o (yielded ops a.tmps) = true) (hD : Stable D2) (hE : ∀ w, D2 w → E w) (hy : ∀ w, D w → genAt P o a w fun v' w' => v' = v ∧ D2 w')
    (h : wpL P ops E al Q rest D2 (a.put o.dst v)) : wpL P ops E al Q ((k, o) :: rest) D a := by
  unfold wpL
  rw [if_pos hal]
  refine ⟨hw, Unit, fun _ => v, fun _ => D2, fun _ => ⟨hD, hE⟩, fun w hw' => ?_, fun _ => h⟩
  have h1 := hy w hw'
  unfold genAt at h1 ⊢
  generalize (execOp a.eval o).run P w = r at *
  cases r with
  | ok n w' =>
    cases n <;> simp only [genUpon] at h1 ⊢
    case value u => exact ⟨(), h1⟩
    case skip => exact ⟨(), h1⟩
    case enter f args => exact h1.mono fun e w'' ⟨v', h3, h4⟩ => ⟨v', h3, (), h4⟩
  | halt x w' => simp only [genUpon] at h1
end
end Go.Proofs.YteehpfccegnjjaaDoor
