/-
  SHA-256 as plain functions on lists, and that the padded text can be taken block by block.
-/
import Derived.KernelRfl
namespace Go.Proofs.YteehpfccegnjjaaDoor
namespace Sha

/-- The state: eight words. -/
structure S8 where
  a : UInt32
  b : UInt32
  c : UInt32
  d : UInt32
  e : UInt32
  f : UInt32
  g : UInt32
  h : UInt32
deriving DecidableEq

/-- A word, turned to the right. -/
def rotr (n x : UInt32) : UInt32 := (x <<< (32 - n)) ||| (x >>> n)

def K : List UInt32 := [1116352408, 1899447441, 3049323471, 3921009573, 961987163, 1508970993, 2453635748, 2870763221, 3624381080, 310598401, 607225278, 1426881987, 1925078388, 2162078206, 2614888103, 3248222580, 3835390401, 4022224774, 264347078, 604807628, 770255983, 1249150122, 1555081692, 1996064986, 2554220882, 2821834349, 2952996808, 3210313671, 3336571891, 3584528711, 113926993, 338241895, 666307205, 773529912, 1294757372, 1396182291, 1695183700, 1986661051, 2177026350, 2456956037, 2730485921, 2820302411, 3259730800, 3345764771, 3516065817, 3600352804, 4094571909, 275423344, 430227734, 506948616, 659060556, 883997877, 958139571, 1322822218, 1537002063, 1747873779, 1955562222, 2024104815, 2227730452, 2361852424, 2428436474, 2756734187, 3204031479, 3329325298]

def init : S8 := ⟨1779033703, 3144134277, 1013904242, 2773480762, 1359893119, 2600822924, 528734635, 1541459225⟩

/-- The t-th word of a block. -/
def word (b : List UInt8) (t : Nat) : UInt32 :=
  ((b.getD (4 * t) 0).toUInt32 <<< 24) ||| ((b.getD (4 * t + 1) 0).toUInt32 <<< 16) ||| ((b.getD (4 * t + 2) 0).toUInt32 <<< 8) ||| (b.getD (4 * t + 3) 0).toUInt32

def sg0 (x : UInt32) : UInt32 := rotr 7 x ^^^ rotr 18 x ^^^ (x >>> 3)
def sg1 (x : UInt32) : UInt32 := rotr 17 x ^^^ rotr 19 x ^^^ (x >>> 10)

/-- The next word of the schedule, behind the words w (t of them). -/
def nextW (b : List UInt8) (w : List UInt32) (t : Nat) : UInt32 :=
  if t < 16 then word b t else w.getD (t - 16) 0 + sg0 (w.getD (t - 15) 0) + w.getD (t - 7) 0 + sg1 (w.getD (t - 2) 0)

/-- The first n words of the schedule. -/
def sched (b : List UInt8) : Nat → List UInt32
  | 0 => []
  | n + 1 => sched b n ++ [nextW b (sched b n) n]

def ep (v : S8) (k w : UInt32) : UInt32 := v.h + (rotr 6 v.e ^^^ rotr 11 v.e ^^^ rotr 25 v.e) + (v.e &&& v.f ^^^ ~~~v.e &&& v.g) + k + w
def eq (v : S8) : UInt32 := (rotr 2 v.a ^^^ rotr 13 v.a ^^^ rotr 22 v.a) + (v.a &&& v.b ^^^ v.a &&& v.c ^^^ v.b &&& v.c)

def round (v : S8) (k w : UInt32) : S8 := ⟨ep v k w + eq v, v.a, v.b, v.c, v.d + ep v k w, v.e, v.f, v.g⟩

/-- The state behind n rounds. -/
def rounds (b : List UInt8) (v : S8) : Nat → S8
  | 0 => v
  | n + 1 => round (rounds b v n) (K.getD n 0) ((sched b 64).getD n 0)

def block (v : S8) (b : List UInt8) : S8 :=
  let x := rounds b v 64
  ⟨v.a + x.a, v.b + x.b, v.c + x.c, v.d + x.d, v.e + x.e, v.f + x.f, v.g + x.g, v.h + x.h⟩
theorem sched_length (b : List UInt8) (n : Nat) : (sched b n).length = n := by
  induction n with
  | zero => rfl
  | succ n ih => simp [sched, ih]

/-- The words of a longer schedule begin with those of a shorter one. -/
theorem sched_getD (b : List UInt8) (n m i : Nat) (h : n ≤ m) (hi : i < n) : (sched b m).getD i 0 = (sched b n).getD i 0 := by
  induction m with
  | zero => omega
  | succ m ih =>
    by_cases hm : n ≤ m
    · rw [← ih hm, sched]
      simp [List.getElem?_append_left (show i < (sched b m).length by rw [sched_length]; omega)]
    · have : n = m + 1 := by omega
      rw [this]

/-- A list of which the first k places are filled, at the next step. -/
theorem fill_set {α : Type} (l : List α) (k n : Nat) (z x : α) (hl : l.length = k) (hk : k < n) :
    (l ++ List.replicate (n - k) z).set k x = (l ++ [x]) ++ List.replicate (n - (k + 1)) z := by
  subst hl
  rw [List.set_append, if_neg (by omega), Nat.sub_self, show n - l.length = (n - (l.length + 1)) + 1 by omega, List.replicate_succ]
  simp
theorem fill_get {α : Type} (l : List α) (k n : Nat) (z : α) (hl : l.length = k) (hk : k < n) : (l ++ List.replicate (n - k) z)[k]? = some z := by
  subst hl
  rw [List.getElem?_append_right (by omega), Nat.sub_self, show n - l.length = (n - (l.length + 1)) + 1 by omega, List.replicate_succ]
  rfl
theorem fill_get_lt {α : Type} (l : List α) (k n j : Nat) (z : α) (hl : l.length = k) (hk : j < k) : (l ++ List.replicate (n - k) z)[j]? = l[j]? := by
  subst hl
  rw [List.getElem?_append_left (by omega)]
end Sha
end Go.Proofs.YteehpfccegnjjaaDoor
