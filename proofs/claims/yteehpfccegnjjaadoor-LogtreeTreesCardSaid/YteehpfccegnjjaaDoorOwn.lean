/-
  A slice value that holds known cells in a block of the call's own, whatever capacity it has; append to such a slice.
-/
import Derived.Test.YteehpfccegnjjaaDoorArr
import Derived.Laws.IdiomCopy
import Derived.Lib.AppendStr
import Derived.Lib.ConvBytes
namespace Go.Proofs.YteehpfccegnjjaaDoor
open Go Go.RowKit

/-- The value v of n elements (of type e, sz cells each) holds the cells xs, in a block from base on, of which no cell is frozen. -/
def Own (w : World) (base : Nat) (e : TypeId) (sz : Nat) (v : Value) (n : Nat) (xs : List Value) : Prop :=
  xs.length = n * sz ∧ ((v = .slice none 0 0 ∧ n = 0) ∨
    ∃ g cap cur fr, v = .slice (some ⟨g, 0, none⟩) n cap ∧ base ≤ g ∧ w.heap[g]? = some (.cells cur e fr) ∧ cur.size = cap * sz ∧ n ≤ cap ∧ cap ≤ maxLen ∧
      (fr.2 ≤ fr.1 ∨ cur.size ≤ fr.1) ∧ cur.toList.take (n * sz) = xs)

/-- The block of an owned slice, if it has one. -/
def Block (v : Value) : Option Nat := v.ownBlock

theorem Own.length {w : World} {base : Nat} {e : TypeId} {sz : Nat} {v : Value} {n : Nat} {xs : List Value} (h : Own w base e sz v n xs) : xs.length = n * sz := h.1
theorem Own.nil (w : World) (base : Nat) (e : TypeId) (sz : Nat) : Own w base e sz (.slice none 0 0) 0 [] := ⟨by simp, .inl ⟨rfl, rfl⟩⟩
theorem Own.shape {w : World} {base : Nat} {e : TypeId} {sz : Nat} {v : Value} {n : Nat} {xs : List Value} (h : Own w base e sz v n xs) : ∃ a cap, v = .slice a n cap := by
  rcases h.2 with ⟨rfl, rfl⟩ | ⟨g, cap, cur, fr, rfl, _⟩
  · exact ⟨_, _, rfl⟩
  · exact ⟨_, _, rfl⟩
theorem Own.lt {w : World} {base : Nat} {e : TypeId} {sz : Nat} {v : Value} {n : Nat} {xs : List Value} (h : Own w base e sz v n xs) : ∀ k, v.ownBlock = some k → base ≤ k ∧ k < w.heap.size := by
  intro k hk
  rcases h.2 with ⟨rfl, _⟩ | ⟨g, cap, cur, fr, rfl, hb, hg, _⟩
  · simp [Value.ownBlock] at hk
  · simp [Value.ownBlock] at hk
    subst hk
    exact ⟨hb, (Array.getElem?_eq_some_iff.1 hg).1⟩
theorem Own.kept {w w' : World} {base : Nat} {e : TypeId} {sz : Nat} {v : Value} {n : Nat} {xs : List Value} (h : Own w base e sz v n xs) (hk : ∀ k, v.ownBlock = some k → w'.heap[k]? = w.heap[k]?) : Own w' base e sz v n xs := by
  refine ⟨h.1, ?_⟩
  rcases h.2 with h0 | ⟨g, cap, cur, fr, rfl, hb, hg, r⟩
  · exact .inl h0
  · exact .inr ⟨g, cap, cur, fr, rfl, hb, by rw [hk g (by simp [Value.ownBlock])]; exact hg, r⟩
theorem Own.below {w w' : World} {B base : Nat} {e : TypeId} {sz : Nat} {v : Value} {n : Nat} {xs : List Value} (h : Own w base e sz v n xs) (hB : Below B w w') (hl : w.heap.size ≤ B) : Own w' base e sz v n xs :=
  h.kept fun k hk => hB.block k (Nat.lt_of_lt_of_le (h.lt k hk).2 hl)
theorem Own.alloc {w : World} {base : Nat} {e : TypeId} {sz : Nat} {v : Value} {n : Nat} {xs : List Value} (h : Own w base e sz v n xs) (o : Obj) : Own (w.alloc o) base e sz v n xs :=
  h.kept fun k hk => Below.heap_alloc w o k (h.lt k hk).2
theorem Own.same {w w' : World} {base : Nat} {e : TypeId} {sz : Nat} {v : Value} {n : Nat} {xs : List Value} (h : Own w base e sz v n xs) (hs : w'.heap = w.heap) : Own w' base e sz v n xs :=
  h.kept fun k _ => by rw [hs]
theorem Own.setCell {w : World} {base : Nat} {e : TypeId} {sz : Nat} {v : Value} {n : Nat} {xs : List Value} (h : Own w base e sz v n xs) (a : Addr) (u : Value) (ha : v.ownBlock ≠ some a.block) : Own (w.setCell a u) base e sz v n xs :=
  h.kept fun k hk => heap_setCell_other w a k u (fun e => ha (by rw [← e]; exact hk))
theorem Own.mono {w : World} {base base' : Nat} {e : TypeId} {sz : Nat} {v : Value} {n : Nat} {xs : List Value} (h : Own w base e sz v n xs) (hb : base' ≤ base) : Own w base' e sz v n xs := by
  refine ⟨h.1, ?_⟩
  rcases h.2 with h0 | ⟨g, cap, cur, fr, rfl, hb', r⟩
  · exact .inl h0
  · exact .inr ⟨g, cap, cur, fr, rfl, Nat.le_trans hb hb', r⟩

/-- A cell of an owned slice. -/
theorem Own.cell {w : World} {base : Nat} {e : TypeId} {sz : Nat} {n cap g o : Nat} {xs : List Value} (h : Own w base e sz (.slice (some ⟨g, o, none⟩) n cap) n xs) (j : Nat) (hj : j < xs.length) : w.cell? ⟨g, j, none⟩ = xs[j]? := by
  rcases h.2 with ⟨h0, _⟩ | ⟨g', cap', cur, fr, hv, hb, hg, hc, hn, hm, hf, ht⟩
  · cases h0
  · cases hv
    rw [cell_of_row w g j cur e fr hg, ← ht, List.getElem?_take, if_pos (by rw [← h.1]; exact hj)]
    simp

theorem heap_setCell_at (w : World) (g i : Nat) (cs : Array Value) (t : TypeId) (fr : Nat × Nat) (v : Value) (hg : w.heap[g]? = some (.cells cs t fr)) :
    (w.setCell ⟨g, i, none⟩ v).heap[g]? = some (.cells (cs.setIfInBounds i v) t fr) := by
  simp [World.setCell, Array.getElem?_modify, hg]

theorem list_set_seg (l : List Value) (o : Nat) (v : Value) (r : List Value) (h : o < l.length) :
    (l.set o v).take (o + 1) ++ r ++ (l.set o v).drop (o + 1 + r.length) = l.take o ++ (v :: r) ++ l.drop (o + (r.length + 1)) := by
  have e1 : (l.set o v).take (o + 1) = l.take o ++ [v] := by
    rw [List.take_succ_eq_append_getElem (by simpa using h)]
    simp [List.take_set_of_le]
  rw [e1, List.drop_set_of_lt (by omega), show o + 1 + r.length = o + (r.length + 1) by omega]
  simp

theorem heap_setCells (g : Nat) (t : TypeId) (fr : Nat × Nat) : ∀ (vs : List Value) (o : Nat) (w : World) (cur : Array Value), w.heap[g]? = some (.cells cur t fr) → o + vs.length ≤ cur.size →
    (w.setCells g o vs).heap[g]? = some (.cells (cur.toList.take o ++ vs ++ cur.toList.drop (o + vs.length)).toArray t fr)
  | [], o, w, cur, hg, _ => by simp [World.setCells, hg]
  | v :: r, o, w, cur, hg, hl => by
    have h1 := heap_setCell_at w g o cur t fr v hg
    have h2 := heap_setCells g t fr r (o + 1) (w.setCell ⟨g, o, none⟩ v) _ h1 (by simp at hl ⊢; omega)
    rw [World.setCells, h2, Array.toList_setIfInBounds, list_set_seg _ _ _ _ (by simp at hl ⊢; omega)]
    simp

theorem heap_setCells_other (g : Nat) : ∀ (vs : List Value) (o : Nat) (w : World) (k : Nat), k ≠ g → (w.setCells g o vs).heap[k]? = w.heap[k]?
  | [], _, _, _, _ => rfl
  | v :: r, o, w, k, hk => by rw [World.setCells, heap_setCells_other g r (o + 1) _ k hk, heap_setCell_other w ⟨g, o, none⟩ k v hk]

theorem setCells_rest (g : Nat) : ∀ (vs : List Value) (o : Nat) (w : World), (w.setCells g o vs).os = w.os ∧ (w.setCells g o vs).tape = w.tape ∧ (w.setCells g o vs).output = w.output ∧ (w.setCells g o vs).heap.size = w.heap.size
  | [], _, _ => ⟨rfl, rfl, rfl, rfl⟩
  | v :: r, o, w => by
    obtain ⟨a, b, c, d⟩ := setCells_rest g r (o + 1) (w.setCell ⟨g, o, none⟩ v)
    exact ⟨a, b, c, by rw [World.setCells, d]; simp [World.setCell]⟩

theorem frozen_at (w : World) (g i : Nat) (cs : Array Value) (t : TypeId) (fr : Nat × Nat) (hg : w.heap[g]? = some (.cells cs t fr)) (hf : fr.2 ≤ fr.1 ∨ cs.size ≤ fr.1) (hi : i < cs.size) : w.frozen? ⟨g, i, none⟩ = false := by
  simp [World.frozen?, hg]
  omega

/-- The cells of an owned slice, as the library's laws ask for them. -/
theorem Own.cells {w : World} {base : Nat} {e : TypeId} {sz : Nat} {n cap g : Nat} {xs : List Value} (h : Own w base e sz (.slice (some ⟨g, 0, none⟩) n cap) n xs) : ∀ j u, xs[j]? = some u → w.cell? ((⟨g, 0, none⟩ : Addr).add j) = some u := by
  intro j u hu
  have hj : j < xs.length := (List.getElem?_eq_some_iff.1 hu).1
  have := h.cell j hj
  rw [Addr.add_lit, Nat.zero_add, this, hu]

/-- What append leaves. -/
def Appended (w : World) (base : Nat) (e : TypeId) (sz : Nat) (v : Value) (n : Nat) (xs : List Value) (v' : Value) (w' : World) : Prop :=
  Own w' base e sz v' n xs ∧ w.grownBy w' v.ownBlock ∧ (v'.ownBlock = v.ownBlock ∨ ∃ k, v'.ownBlock = some k ∧ w.heap.size ≤ k)

section
variable {P : Program} (w : World) (base : Nat) (t ty e : TypeId) (i : TypeInfo) (z : Value) (sz bytes : Nat)

theorem own_fresh (hzs : z.cells.size = sz) (n : Nat) (xs : List Value) (hl : xs.length = n * sz) (hn : n ≤ maxLen) (old : Nat) (hbase : base ≤ w.heap.size) (c : Array Value) (hc : c.toList = xs) (row : Value) :
    Appended w base e sz row n xs (.slice (some ⟨w.heap.size, 0, none⟩) n (grownCap w n old e)) (w.drew.alloc (.cells (c ++ Builtin.zeroCells z.cells (grownCap w n old e - n)) e)) := by
  have hge := grownCap_ge w n old e
  refine ⟨⟨hl, .inr ⟨w.heap.size, _, _, _, rfl, hbase, heap_alloc_new w.drew _, ?_, hge, grownCap_le_maxLen w n old e hn, .inl (Nat.le_refl _), ?_⟩⟩, ⟨rfl, rfl, rfl, by simp, fun k hk _ => Below.heap_alloc w.drew _ k hk⟩, .inr ⟨_, rfl, Nat.le_refl _⟩⟩
  · have : c.size = n * sz := by rw [← hl, ← hc]; simp
    rw [Array.size_append, size_zeroCells, hzs, this, ← Nat.add_mul]
    congr 1
    omega
  · rw [Array.toList_append, hc, ← hl]
    exact List.take_left

theorem own_inplace {w : World} {base : Nat} {e : TypeId} {sz : Nat} {n cap g m : Nat} {cur : Array Value} {fr : Nat × Nat} {xs news : List Value} (hb : base ≤ g) (hg : w.heap[g]? = some (.cells cur e fr)) (hc : cur.size = cap * sz) (hm : cap ≤ maxLen)
    (hf : fr.2 ≤ fr.1 ∨ cur.size ≤ fr.1) (ht : cur.toList.take (n * sz) = xs) (hx : xs.length = n * sz) (hl : news.length = m * sz) (hroom : n + m ≤ cap) :
    Appended w base e sz (.slice (some ⟨g, 0, none⟩) n cap) (n + m) (xs ++ news) (.slice (some ⟨g, 0, none⟩) (n + m) cap) (w.setCells g (n * sz) news) := by
  have hfit : n * sz + news.length ≤ cur.size := by rw [hl, hc, ← Nat.add_mul]; exact Nat.mul_le_mul_right _ hroom
  obtain ⟨r1, r2, r3, r4⟩ := setCells_rest g news (n * sz) w
  refine ⟨⟨by rw [List.length_append, hx, hl, Nat.add_mul], .inr ⟨g, cap, _, fr, rfl, hb, heap_setCells g e fr news (n * sz) w cur hg hfit, ?_, hroom, hm, ?_, ?_⟩⟩, ⟨r1, r2, r3, by rw [r4]; exact Nat.le_refl _, fun k _ hk => heap_setCells_other g news _ w k (fun e => hk (by simp [Value.ownBlock, e]))⟩, .inl rfl⟩
  · rw [← hc]; simp; omega
  · rcases hf with hf | hf
    · exact .inl hf
    · right; simp; omega
  · rw [ht, show (n + m) * sz = (xs ++ news).length by rw [List.length_append, hx, hl, Nat.add_mul]]
    exact List.take_left

/-- append(v, x...), x a slice whose elements lie in memory. -/
theorem run_append (ht : P.underlying t = some (.slice e)) (hi : P.info? e = some i) (hz : i.zero = some z) (hsize : i.size = sz) (hby : i.bytes = bytes) (hzs : z.cells.size = sz)
    (v : Value) (n : Nat) (xs : List Value) (hown : Own w base e sz v n xs)
    (a : Addr) (m c : Nat) (news : List Value) (hl : news.length = m * sz) (hnews : ∀ j u, news[j]? = some u → w.cell? (a.add j) = some u) (h1 : ∀ u ∈ news, u.oneCell' = true)
    (h63 : n + m ≤ maxLen) (hbytes : (n + m) * bytes ≤ 140737488355328) (hbase : base ≤ w.heap.size) :
    ∃ v' w', (Builtin.append_ #[t, t] ty #[v, .slice (some a) m c]).run P w = .ok v' w' ∧ Appended w base e sz v (n + m) (xs ++ news) v' w' := by
  subst hsize
  subst hby
  have hsmall : n + m ≤ 9223372036854775807 := by simp only [maxLen] at h63; omega
  have hlen : (xs ++ news).length = (n + m) * i.size := by rw [List.length_append, hown.1, hl, Nat.add_mul]
  rcases hown.2 with ⟨rfl, rfl⟩ | ⟨g, cap, cur, fr, rfl, hbg, hg, hcs, hnc, hcm, hf, htake⟩
  · have hx : xs = [] := List.eq_nil_of_length_eq_zero (by simpa using hown.1)
    subst hx
    simp only [Nat.zero_add, List.nil_append] at hlen hbytes h63 hsmall ⊢
    by_cases hm : m = 0
    · subst hm
      have hn : news = [] := List.eq_nil_of_length_eq_zero (by simpa using hl)
      subst hn
      refine ⟨.slice none 0 0, w, ?_, Own.nil w base e i.size, ⟨rfl, rfl, rfl, Nat.le_refl _, fun _ _ _ => rfl⟩, .inl rfl⟩
      simp [Builtin.append_, run_underlying ht, sizeOf, typeInfo, hi, Builtin.lenOf, Builtin.firstCells, loadCells, loadCellsFrom]
    · exact ⟨_, _, run_append_nil (P := P) w t ty e i z ht hi hz a m c news hl hnews (by omega) (by omega) (by omega),
        own_fresh w base e z i.size hzs m news hl h63 0 hbase news.toArray rfl (.slice none 0 0)⟩
  · by_cases hroom : n + m ≤ cap
    · have hA := own_inplace (m := m) hbg hg hcs hcm hf htake hown.1 hl hroom
      refine ⟨_, _, ?_, hA⟩
      have hfc := run_firstCells_some (P := P) w i.size m a m c news hl hnews
      have hcell : ∀ j, j < news.length → n * i.size + j < cur.size := fun j hj => by
        have : (n + m) * i.size ≤ cap * i.size := Nat.mul_le_mul_right _ hroom
        rw [Nat.add_mul] at this
        omega
      have hst := run_storeCells_cells (P := P) g (n * i.size) news 0 w (fun j hj => by rw [Nat.add_zero, cell_of_row w g _ cur e fr hg]; simp [hcell j hj]) (fun j hj => by rw [Nat.add_zero]; exact frozen_at w g _ cur e fr hg hf (hcell j hj)) h1
      simp only [Nat.add_zero] at hst
      simp [Builtin.append_, run_underlying ht, sizeOf, typeInfo, hi, Builtin.lenOf, hroom, hfc, Addr.add_lit, hst]
    · have holds := hown.cells
      exact ⟨_, _, run_append_grow (P := P) w t ty e i z ht hi hz ⟨g, 0, none⟩ n cap xs hown.1 holds a m c news hl hnews (by omega) (by omega) (growslice_fits (by omega) hbytes),
        own_fresh w base e z i.size hzs (n + m) (xs ++ news) hlen h63 cap hbase (xs.toArray ++ news.toArray) (by simp) _⟩

/-- append([]byte, s...). -/
theorem run_append_str (u : TypeId) (ht : P.underlying t = some (.slice e)) (hu : P.underlying u = some .string) (hi : P.info? e = some i) (hz : i.zero = some (.int .u8 0)) (hsize : i.size = 1) (hby : i.bytes = 1)
    (v : Value) (n : Nat) (xs : List Value) (hown : Own w base e 1 v n xs) (s : ByteArray)
    (h63 : n + s.size ≤ 140737488355328) (hbase : base ≤ w.heap.size) :
    ∃ v' w', (Builtin.append_ #[t, u] ty #[v, .string s]).run P w = .ok v' w' ∧ Appended w base e 1 v (n + s.size) (xs ++ s.data.toList.map V8) v' w' := by
  have hm63 : n + s.size ≤ maxLen := by simp only [maxLen]; omega
  have hl : (s.data.toList.map V8).length = s.size * 1 := by simp
  have hlen : (xs ++ s.data.toList.map V8).length = (n + s.size) * 1 := by rw [List.length_append, hown.1, hl, Nat.add_mul]
  have h1 : ∀ x ∈ s.data.toList.map V8, x.oneCell' = true := by
    intro x hx
    simp only [List.mem_map] at hx
    obtain ⟨y, _, rfl⟩ := hx
    rfl
  rcases hown.2 with ⟨rfl, rfl⟩ | ⟨g, cap, cur, fr, rfl, hbg, hg, hcs, hnc, hcm, hf, htake⟩
  · have hx : xs = [] := List.eq_nil_of_length_eq_zero (by simpa using hown.1)
    subst hx
    simp only [Nat.zero_add, List.nil_append] at hlen h63 hm63 ⊢
    by_cases hm : s.size = 0
    · have hn : s.data.toList = [] := List.eq_nil_of_length_eq_zero (by simpa using hm)
      refine ⟨.slice none 0 0, w, ?_, by rw [hn, hm]; exact Own.nil w base e 1, ⟨rfl, rfl, rfl, Nat.le_refl _, fun _ _ _ => rfl⟩, .inl rfl⟩
      have hfc := Lib.run_firstCells_string (P := P) w 1 s
      simp [Builtin.append_, run_underlying ht, run_underlying hu, sizeOf, typeInfo, hi, hsize, Builtin.lenOf, hm] at hfc ⊢
      simp [hfc]
    · exact ⟨_, _, run_append_nil_string (P := P) w t u ty e i _ ht hu hi hz s (by omega) (by omega) (by rw [hby]; omega),
        own_fresh w base e _ 1 rfl s.size _ hl hm63 0 hbase _ (by simp) (.slice none 0 0)⟩
  · have hfc := Lib.run_firstCells_string (P := P) w 1 s
    by_cases hroom : n + s.size ≤ cap
    · have hA := own_inplace (m := s.size) hbg hg hcs hcm hf htake hown.1 hl hroom
      refine ⟨_, _, ?_, hA⟩
      have hcell : ∀ j, j < (s.data.toList.map V8).length → n * 1 + j < cur.size := fun j hj => by
        have : (n + s.size) * 1 ≤ cap * 1 := Nat.mul_le_mul_right _ hroom
        simp at hj
        omega
      have hst := run_storeCells_cells (P := P) g (n * 1) (s.data.toList.map V8) 0 w (fun j hj => by rw [Nat.add_zero, cell_of_row w g _ cur e fr hg]; simp only [Nat.mul_one] at hcell; simp [hcell j hj]) (fun j hj => by rw [Nat.add_zero]; exact frozen_at w g _ cur e fr hg hf (hcell j hj)) h1
      simp only [Nat.add_zero] at hst
      have hsc : Lib.strCells s = s.data.toList.map V8 := rfl
      simp only [Nat.mul_one] at hst ⊢
      simp [Builtin.append_, run_underlying ht, run_underlying hu, sizeOf, typeInfo, hi, hsize, Builtin.lenOf, hroom, hfc, hsc, Addr.add_lit, hst]
    · have holds := hown.cells
      exact ⟨_, _, Lib.run_append_grow_string (P := P) w t u ty e i _ ht hu hi hz ⟨g, 0, none⟩ n cap xs (by rw [hsize]; exact hown.1) holds s (by omega) (by omega) (growslice_fits (by omega) (by rw [hby]; omega)),
        own_fresh w base e _ 1 rfl (n + s.size) _ hlen hm63 cap hbase (xs.toArray ++ (Lib.strCells s).toArray) (by simp [Lib.strCells]) _⟩
end
end Go.Proofs.YteehpfccegnjjaaDoor
