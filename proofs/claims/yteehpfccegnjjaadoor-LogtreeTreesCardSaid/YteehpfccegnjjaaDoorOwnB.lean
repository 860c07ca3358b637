/-
  Append and the conversions between strings and bytes, at an operation of a walk.
-/
import Derived.Test.YteehpfccegnjjaaDoorOwn
import Derived.Laws.BytesArg
namespace Go.Proofs.YteehpfccegnjjaaDoor
open Go Go.RowKit

/-- The cells from an address on are these bytes. -/
def Bytes (w : World) (g off : Nat) (l : List UInt8) : Prop := ∀ j, j < l.length → w.cell? ⟨g, off + j, none⟩ = some (V8 (l.getD j 0))
theorem Bytes.below {w w' : World} {B g off : Nat} {l : List UInt8} (h : Bytes w g off l) (hB : Below B w w') (hg : g < B) : Bytes w' g off l :=
  fun j hj => (hB.cell (p := ⟨g, off + j, none⟩) hg).trans (h j hj)
theorem Bytes.same {w w' : World} {g off : Nat} {l : List UInt8} (h : Bytes w g off l) (hs : w'.heap = w.heap) : Bytes w' g off l := by
  intro j hj
  have := h j hj
  unfold World.cell? at *
  rw [hs]; exact this
theorem Own.bytes {w : World} {base : Nat} {e : TypeId} {n cap g o : Nat} {l : List UInt8} (h : Own w base e 1 (.slice (some ⟨g, o, none⟩) n cap) n (l.map V8)) : Bytes w g 0 l := by
  intro j hj
  rw [Nat.zero_add, h.cell j (by simpa using hj)]
  simp [hj]
theorem Bytes.part {w : World} {g off : Nat} {l : List UInt8} (h : Bytes w g off l) (o n : Nat) (hn : o + n ≤ l.length) : Bytes w g (off + o) ((l.drop o).take n) := by
  intro j hj
  have hj' : j < n := by simp at hj; omega
  have := h (o + j) (by omega)
  rw [Nat.add_assoc, this]
  simp only [List.getD_eq_getElem?_getD, List.getElem?_take, if_pos hj', List.getElem?_drop]

section
variable {P : Program} {ops : Array Oper} {rest : List Oper} {o : Oper} {a : Act} {w : World} {Q : Exit → Act → World → Prop}

theorem wp_app {K : Act → World → Prop} (s x : Operand) (t : TypeId) (ho : o.op = .call { callee := .builtin .append, args := #[s, x], argTypes := #[t, t] })
    (base : Nat) (e : TypeId) (i : TypeInfo) (z : Value) (sz bytes : Nat) (ht : P.underlying t = some (.slice e)) (hi : P.info? e = some i) (hz : i.zero = some z) (hsize : i.size = sz) (hby : i.bytes = bytes) (hzs : z.cells.size = sz)
    (v : Value) (n : Nat) (xs : List Value) (hs : a.eval s = v) (hown : Own w base e sz v n xs)
    (ad : Addr) (m c : Nat) (news : List Value) (hx : a.eval x = .slice (some ad) m c) (hl : news.length = m * sz) (hnews : ∀ j u, news[j]? = some u → w.cell? (ad.add j) = some u) (h1 : ∀ u ∈ news, u.oneCell' = true)
    (h63 : n + m ≤ maxLen) (hbytes : (n + m) * bytes ≤ 140737488355328) (hbase : base ≤ w.heap.size)
    (h : ∀ v' w', Appended w base e sz v (n + m) (xs ++ news) v' w' → K (a.put o.dst v') w') : o.wp P a w K Q := by
  obtain ⟨v', w', hr, hA⟩ := run_append (P := P) w base t o.type e i z sz bytes ht hi hz hsize hby hzs v n xs hown ad m c news hl hnews h1 h63 hbytes hbase
  unfold Oper.wp execOp
  simp only [ho, resolve, invoke, builtin, Sem.run_bind, Sem.run_pure, Result.andThen_ok, List.map_toArray, List.map_cons, List.map_nil, hs, hx, hr]
  exact h v' w' hA

/-- append(s, x...), s owned, x a slice in memory. -/
theorem wpList_app (hgd : o.guard = none) (s x : Operand) (t : TypeId) (ho : o.op = .call { callee := .builtin .append, args := #[s, x], argTypes := #[t, t] })
    (base : Nat) (e : TypeId) (i : TypeInfo) (z : Value) (sz bytes : Nat) (ht : P.underlying t = some (.slice e)) (hi : P.info? e = some i) (hz : i.zero = some z) (hsize : i.size = sz) (hby : i.bytes = bytes) (hzs : z.cells.size = sz)
    (v : Value) (n : Nat) (xs : List Value) (hs : a.eval s = v) (hown : Own w base e sz v n xs)
    (ad : Addr) (m c : Nat) (news : List Value) (hx : a.eval x = .slice (some ad) m c) (hl : news.length = m * sz) (hnews : ∀ j u, news[j]? = some u → w.cell? (ad.add j) = some u) (h1 : ∀ u ∈ news, u.oneCell' = true)
    (h63 : n + m ≤ maxLen) (hbytes : (n + m) * bytes ≤ 140737488355328) (hbase : base ≤ w.heap.size)
    (h : ∀ v' w', Appended w base e sz v (n + m) (xs ++ news) v' w' → wpList P ops Q rest (a.put o.dst v') w') : wpList P ops Q (o :: rest) a w :=
  wpList_plain hgd fun _ hK => wp_app s x t ho base e i z sz bytes ht hi hz hsize hby hzs v n xs hs hown ad m c news hx hl hnews h1 h63 hbytes hbase fun v' w' hA => hK _ _ (h v' w' hA)

theorem wp_apps {K : Act → World → Prop} (s x : Operand) (t u : TypeId) (ho : o.op = .call { callee := .builtin .append, args := #[s, x], argTypes := #[t, u] })
    (base : Nat) (e : TypeId) (i : TypeInfo) (ht : P.underlying t = some (.slice e)) (hu : P.underlying u = some .string) (hi : P.info? e = some i) (hz : i.zero = some (.int .u8 0)) (hsize : i.size = 1) (hby : i.bytes = 1)
    (v : Value) (n : Nat) (xs : List Value) (hs : a.eval s = v) (hown : Own w base e 1 v n xs) (sb : ByteArray) (hx : a.eval x = .string sb)
    (h63 : n + sb.size ≤ 140737488355328) (hbase : base ≤ w.heap.size)
    (h : ∀ v' w', Appended w base e 1 v (n + sb.size) (xs ++ sb.data.toList.map V8) v' w' → K (a.put o.dst v') w') : o.wp P a w K Q := by
  obtain ⟨v', w', hr, hA⟩ := run_append_str (P := P) w base t o.type e i u ht hu hi hz hsize hby v n xs hown sb h63 hbase
  unfold Oper.wp execOp
  simp only [ho, resolve, invoke, builtin, Sem.run_bind, Sem.run_pure, Result.andThen_ok, List.map_toArray, List.map_cons, List.map_nil, hs, hx, hr]
  exact h v' w' hA

/-- append(s, x...), s owned bytes, x a string. -/
theorem wpList_apps (hgd : o.guard = none) (s x : Operand) (t u : TypeId) (ho : o.op = .call { callee := .builtin .append, args := #[s, x], argTypes := #[t, u] })
    (base : Nat) (e : TypeId) (i : TypeInfo) (ht : P.underlying t = some (.slice e)) (hu : P.underlying u = some .string) (hi : P.info? e = some i) (hz : i.zero = some (.int .u8 0)) (hsize : i.size = 1) (hby : i.bytes = 1)
    (v : Value) (n : Nat) (xs : List Value) (hs : a.eval s = v) (hown : Own w base e 1 v n xs) (sb : ByteArray) (hx : a.eval x = .string sb)
    (h63 : n + sb.size ≤ 140737488355328) (hbase : base ≤ w.heap.size)
    (h : ∀ v' w', Appended w base e 1 v (n + sb.size) (xs ++ sb.data.toList.map V8) v' w' → wpList P ops Q rest (a.put o.dst v') w') : wpList P ops Q (o :: rest) a w :=
  wpList_plain hgd fun _ hK => wp_apps s x t u ho base e i ht hu hi hz hsize hby v n xs hs hown sb hx h63 hbase fun v' w' hA => hK _ _ (h v' w' hA)

/-- A string's bytes in a block of their own. -/
theorem own_bytesWorld (w : World) (e : TypeId) (s : ByteArray) (base : Nat) (hb : base ≤ w.heap.size) (hs : s.size ≤ maxLen) :
    Own (Lib.bytesWorld w e s) base e 1 (.slice (some ⟨w.heap.size, 0, none⟩) s.size (grownCap w s.size 0 e)) s.size (s.data.toList.map V8) ∧ w.grownBy (Lib.bytesWorld w e s) none := by
  have hge := grownCap_ge w s.size 0 e
  have hsz : (Lib.bytesCells w e s).size = grownCap w s.size 0 e := by simp [Lib.bytesCells]; omega
  refine ⟨⟨by simp, .inr ⟨_, _, _, _, rfl, hb, Lib.bytesWorld_at_new w e s, by rw [hsz]; simp, hge, grownCap_le_maxLen w _ 0 e hs, .inr (Nat.le_refl _), ?_⟩⟩, ⟨rfl, rfl, rfl, by rw [Lib.bytesWorld_size]; omega, fun k hk _ => Lib.bytesWorld_at_old w e s k hk⟩⟩
  simp only [Lib.bytesCells, Array.toList_append, Array.toList_map, Nat.mul_one]
  rw [show s.size = (s.data.toList.map (fun b => Value.int .u8 (b.toNat : Int))).length by simp]
  exact List.take_left

theorem wp_toBytes {K : Act → World → Prop} (src dst e : TypeId) (x : Operand) (ho : o.op = .convert src dst x) (s : ByteArray) (hx : a.eval x = .string s)
    (hs : P.underlying src = some .string) (hd : P.underlying dst = some (.slice e)) (he : P.underlying e = some (.int .u8)) (base : Nat) (hb : base ≤ w.heap.size) (hl : s.size ≤ maxLen)
    (h : ∀ v' w', Own w' base e 1 v' s.size (s.data.toList.map V8) → w.grownBy w' none → v'.ownBlock = some w.heap.size → K (a.put o.dst v') w') : o.wp P a w K Q := by
  have hr := Lib.run_convert_string_bytes (P := P) w src dst e s hs hd he
  obtain ⟨h1, h2⟩ := own_bytesWorld w e s base hb hl
  unfold Oper.wp execOp
  simp only [ho, hx, Sem.run_bind, Sem.run_pure, Result.andThen_ok, hr]
  exact h _ _ h1 h2 rfl
/-- []byte(s). -/
theorem wpList_toBytes (hgd : o.guard = none) (src dst e : TypeId) (x : Operand) (ho : o.op = .convert src dst x) (s : ByteArray) (hx : a.eval x = .string s)
    (hs : P.underlying src = some .string) (hd : P.underlying dst = some (.slice e)) (he : P.underlying e = some (.int .u8)) (base : Nat) (hb : base ≤ w.heap.size) (hl : s.size ≤ maxLen)
    (h : ∀ v' w', Own w' base e 1 v' s.size (s.data.toList.map V8) → w.grownBy w' none → v'.ownBlock = some w.heap.size → wpList P ops Q rest (a.put o.dst v') w') : wpList P ops Q (o :: rest) a w :=
  wpList_plain hgd fun _ hK => wp_toBytes src dst e x ho s hx hs hd he base hb hl fun v' w' h1 h2 h3 => hK _ _ (h v' w' h1 h2 h3)

theorem strOf_bytes (l : List UInt8) : strOfNums (l.map fun b => (b.toNat : Int)) = ⟨l.toArray⟩ := by
  have h : ((fun n : Int => UInt8.ofNat n.toNat) ∘ fun b : UInt8 => (b.toNat : Int)) = id := by funext b; simp
  simp only [strOfNums, List.map_map, h, List.map_id]

/-- string(b). -/
theorem run_toStr (w : World) (src dst e : TypeId) (hs : P.underlying src = some (.slice e)) (he : P.underlying e = some (.int .u8)) (hd : P.underlying dst = some .string) (g off cap : Nat) (l : List UInt8) (n : Nat) (hn : n = l.length) (hb : Bytes w g off l) :
    (convert src dst (.slice (some ⟨g, off, none⟩) n cap)).run P w = .ok (.string ⟨l.toArray⟩) w := by
  subst hn
  have := run_convert_bytes_arg (P := P) w src e hs he g off l.length cap (l.map fun b => (b.toNat : Int)) (by simp) (fun i hi => by
    rw [hb i hi]
    simp [List.getD, hi]) dst hd
  rw [strOf_bytes] at this
  exact this
theorem run_toStr_nil (w : World) (src dst e : TypeId) (hs : P.underlying src = some (.slice e)) (he : P.underlying e = some (.int .u8)) (hd : P.underlying dst = some .string) (l c : Nat) :
    (convert src dst (.slice none l c)).run P w = .ok (.string ⟨[].toArray⟩) w := run_convert_bytes_nil w src e hs he l c dst hd

/-- string(b), b owned. -/
theorem run_toStr_own (w : World) (src dst e : TypeId) (hs : P.underlying src = some (.slice e)) (he : P.underlying e = some (.int .u8)) (hd : P.underlying dst = some .string) (base : Nat) (v : Value) (l : List UInt8) (n : Nat) (h : Own w base e 1 v n (l.map V8)) :
    (convert src dst v).run P w = .ok (.string ⟨l.toArray⟩) w := by
  have hl := h.1
  rcases h.2 with ⟨rfl, rfl⟩ | ⟨g, cap, cur, fr, rfl, _⟩
  · have : l = [] := by simpa using hl
    subst this
    exact run_toStr_nil w src dst e hs he hd 0 0
  · exact run_toStr w src dst e hs he hd g 0 cap l n (by simpa using hl.symm) h.bytes
end

/-- Guards. -/
theorem at_app (s x : Operand) {P : Program} {ops : Array Oper} {Q : Exit → Act → World → Prop} {rest : List Oper} {a : Act} {w : World} {d : Option Tmp} {t u ty : TypeId} {p : String} {af : Array Edge} {g : Option (Nat × Bool)}
    (h : wpList P ops Q (⟨d, .call { callee := .builtin .append, args := #[s, x], argTypes := #[t, u] }, ty, p, af, g⟩ :: rest) a w) : wpList P ops Q (⟨d, .call { callee := .builtin .append, args := #[s, x], argTypes := #[t, u] }, ty, p, af, g⟩ :: rest) a w := h
theorem at_conv (s d : TypeId) (x : Operand) {P : Program} {ops : Array Oper} {Q : Exit → Act → World → Prop} {rest : List Oper} {a : Act} {w : World} {dd : Option Tmp} {ty : TypeId} {p : String} {af : Array Edge} {g : Option (Nat × Bool)}
    (h : wpList P ops Q (⟨dd, .convert s d x, ty, p, af, g⟩ :: rest) a w) : wpList P ops Q (⟨dd, .convert s d x, ty, p, af, g⟩ :: rest) a w := h

/-- One new cell is what a block of one holds. -/
theorem news_one (w : World) (v : Value) (e : TypeId) : ∀ j u, [v][j]? = some u → (w.alloc (.cells #[v] e)).cell? ((⟨w.heap.size, 0, none⟩ : Addr).add j) = some u := by
  intro j u hu
  match j, hu with
  | 0, hu => simp at hu; subst hu; simp [Addr.add]
  | j + 1, hu => simp at hu
theorem one_oneCell {v : Value} (h : v.oneCell' = true) : ∀ u ∈ [v], u.oneCell' = true := by
  intro u hu; simp at hu; subst hu; exact h
end Go.Proofs.YteehpfccegnjjaaDoor
