/-
  NARROWER THAN 'FOR EVERY INPUT', by the rows' own cells (each row's printed sentence says how): LogtreeRoots: laid · LogtreeFrom: laid · LogtreeExtendRaw: laid · LogtreeCollides: laid · LogtreeIncludes: laid · LogtreeExtends: laid · LogtreeTrees: laid · LogtreeTruncates: laid · LogtreeNil: laid.
  DERIVED. THE GIVEN ROWS OF THIS SEAT. 9 by the template 'for every input the law returns true; each argument reads behind the call as it read before'; 0 by the template 'total and deterministic' (their statements: YteehpfccegnjjaaDoorTotals.lean).
  GIVEN WITH THE SEED: the statements are not yours to turn. If you find one false, say at which input.
  Laid BY PROGRAM, IN A SANDBOX (cutbox-rows.mjs): the forced cells as the released guide's own fill.sh prints them over the translation 31c7869759c95fb1… (all of the seat's roots in one cut). By AI agents, Wed Nov 11 2026. No macro, syntax, notation, axiom, sorry.
-/
import Derived.Test.YteehpfccegnjjaaDoorChecked
import GoSem.Claim
import GoSem.ClaimJoined
import GoSem.ClaimMapViews
import Derived.JoinedTies
import Derived.KernelRfl
namespace Go.Proofs.YteehpfccegnjjaaDoor
/- THE CELL 'sum', in the pinned program and in every row, IS THE sha256 OF THE DUMP (.gsa) THAT YteehpfccegnjjaaDoorProg.lean LOADS. Nothing in Lean hashes anything: it is a label: what it is worth is what the hold of that sum in a sandbox is worth. -/
noncomputable def Tryd.pinned : Pinned := { name := "yteehpfccegnjjaadoor", sum := "31c7869759c95fb1fb7d46b519fdc37e6fd93f3fb15755accabc8a7e91214f13", checked := Tryd.checked }
namespace Rows
def none {H : Type} : Left H := { results := [], args := [] }

/- WHAT THE LISTED PACKAGE-LEVEL VARIABLES READ AS WHEN THE CALL BEGINS. Each datum BY PROGRAM (the guide's laid-datum.mjs) off the statement by which the dump's own 'gosem.cut.vars' lays the variable. In a bare row this is a premise. The card (YteehpfccegnjjaaDoorCards.lean) ties it to the program's text. -/
def laid_replevin_sha256_constants {H : Type} : DataW H := .agg [.lit (.int .u32 1116352408), .lit (.int .u32 1899447441), .lit (.int .u32 3049323471), .lit (.int .u32 3921009573), .lit (.int .u32 961987163), .lit (.int .u32 1508970993), .lit (.int .u32 2453635748), .lit (.int .u32 2870763221), .lit (.int .u32 3624381080), .lit (.int .u32 310598401), .lit (.int .u32 607225278), .lit (.int .u32 1426881987), .lit (.int .u32 1925078388), .lit (.int .u32 2162078206), .lit (.int .u32 2614888103), .lit (.int .u32 3248222580), .lit (.int .u32 3835390401), .lit (.int .u32 4022224774), .lit (.int .u32 264347078), .lit (.int .u32 604807628), .lit (.int .u32 770255983), .lit (.int .u32 1249150122), .lit (.int .u32 1555081692), .lit (.int .u32 1996064986), .lit (.int .u32 2554220882), .lit (.int .u32 2821834349), .lit (.int .u32 2952996808), .lit (.int .u32 3210313671), .lit (.int .u32 3336571891), .lit (.int .u32 3584528711), .lit (.int .u32 113926993), .lit (.int .u32 338241895), .lit (.int .u32 666307205), .lit (.int .u32 773529912), .lit (.int .u32 1294757372), .lit (.int .u32 1396182291), .lit (.int .u32 1695183700), .lit (.int .u32 1986661051), .lit (.int .u32 2177026350), .lit (.int .u32 2456956037), .lit (.int .u32 2730485921), .lit (.int .u32 2820302411), .lit (.int .u32 3259730800), .lit (.int .u32 3345764771), .lit (.int .u32 3516065817), .lit (.int .u32 3600352804), .lit (.int .u32 4094571909), .lit (.int .u32 275423344), .lit (.int .u32 430227734), .lit (.int .u32 506948616), .lit (.int .u32 659060556), .lit (.int .u32 883997877), .lit (.int .u32 958139571), .lit (.int .u32 1322822218), .lit (.int .u32 1537002063), .lit (.int .u32 1747873779), .lit (.int .u32 1955562222), .lit (.int .u32 2024104815), .lit (.int .u32 2227730452), .lit (.int .u32 2361852424), .lit (.int .u32 2428436474), .lit (.int .u32 2756734187), .lit (.int .u32 3204031479), .lit (.int .u32 3329325298)]

/-- 'replevinlaw06.LogtreeRoots': WHATEVER THE INPUT: true; the input reads as it did. -/
def logtreeRootsSpec : ChangeSpec := { name := "logtreeRoots", fn := fun _ => fun
  | [d1, d2, d3] => { results := [.lit (.bool true)], args := [d1, d2, d3] }
  | _ => none }
def logtreeRootsRow : OpenClaim := { program := "yteehpfccegnjjaadoor", sum := "31c7869759c95fb1fb7d46b519fdc37e6fd93f3fb15755accabc8a7e91214f13", func := "replevin/replevinlaw06.LogtreeRoots", spec := "logtreeRoots", recurses := true, named := ["replevin/sha256.constants"], plainKeys := false, apart := false, laid := [("replevin/sha256.constants", laid_replevin_sha256_constants)] }
def LogtreeRootsSaid : Prop := logtreeRootsRow.holds Tryd.pinned (OpenSpec.ofChange logtreeRootsSpec)

/-- ITS FALSE NEIGHBOUR: 'it returns false'. Refute it at one input. -/
def logtreeRootsWrong : ChangeSpec := { name := "logtreeRoots", fn := fun _ => fun
  | [d1, d2, d3] => { results := [.lit (.bool false)], args := [d1, d2, d3] }
  | _ => none }
def LogtreeRootsWrongFalsely : Prop := logtreeRootsRow.holds Tryd.pinned (OpenSpec.ofChange logtreeRootsWrong)

/-- 'replevinlaw06.LogtreeFrom': WHATEVER THE INPUT: true; the input reads as it did. -/
def logtreeFromSpec : ChangeSpec := { name := "logtreeFrom", fn := fun _ => fun
  | [d] => { results := [.lit (.bool true)], args := [d] }
  | _ => none }
def logtreeFromRow : OpenClaim := { program := "yteehpfccegnjjaadoor", sum := "31c7869759c95fb1fb7d46b519fdc37e6fd93f3fb15755accabc8a7e91214f13", func := "replevin/replevinlaw06.LogtreeFrom", spec := "logtreeFrom", recurses := true, named := ["replevin/sha256.constants"], plainKeys := false, apart := false, laid := [("replevin/sha256.constants", laid_replevin_sha256_constants)] }
def LogtreeFromSaid : Prop := logtreeFromRow.holds Tryd.pinned (OpenSpec.ofChange logtreeFromSpec)

/-- ITS FALSE NEIGHBOUR: 'it returns false'. Refute it at one input. -/
def logtreeFromWrong : ChangeSpec := { name := "logtreeFrom", fn := fun _ => fun
  | [d] => { results := [.lit (.bool false)], args := [d] }
  | _ => none }
def LogtreeFromWrongFalsely : Prop := logtreeFromRow.holds Tryd.pinned (OpenSpec.ofChange logtreeFromWrong)

/-- 'replevinlaw06.LogtreeExtendRaw': WHATEVER THE INPUT: true; the input reads as it did. -/
def logtreeExtendRawSpec : ChangeSpec := { name := "logtreeExtendRaw", fn := fun _ => fun
  | [d] => { results := [.lit (.bool true)], args := [d] }
  | _ => none }
def logtreeExtendRawRow : OpenClaim := { program := "yteehpfccegnjjaadoor", sum := "31c7869759c95fb1fb7d46b519fdc37e6fd93f3fb15755accabc8a7e91214f13", func := "replevin/replevinlaw06.LogtreeExtendRaw", spec := "logtreeExtendRaw", recurses := true, named := ["replevin/sha256.constants"], plainKeys := false, apart := false, laid := [("replevin/sha256.constants", laid_replevin_sha256_constants)] }
def LogtreeExtendRawSaid : Prop := logtreeExtendRawRow.holds Tryd.pinned (OpenSpec.ofChange logtreeExtendRawSpec)

/-- ITS FALSE NEIGHBOUR: 'it returns false'. Refute it at one input. -/
def logtreeExtendRawWrong : ChangeSpec := { name := "logtreeExtendRaw", fn := fun _ => fun
  | [d] => { results := [.lit (.bool false)], args := [d] }
  | _ => none }
def LogtreeExtendRawWrongFalsely : Prop := logtreeExtendRawRow.holds Tryd.pinned (OpenSpec.ofChange logtreeExtendRawWrong)

/-- 'replevinlaw06.LogtreeCollides': WHATEVER THE INPUT: true; the input reads as it did. -/
def logtreeCollidesSpec : ChangeSpec := { name := "logtreeCollides", fn := fun _ => fun
  | [d1, d2, d3] => { results := [.lit (.bool true)], args := [d1, d2, d3] }
  | _ => none }
def logtreeCollidesRow : OpenClaim := { program := "yteehpfccegnjjaadoor", sum := "31c7869759c95fb1fb7d46b519fdc37e6fd93f3fb15755accabc8a7e91214f13", func := "replevin/replevinlaw06.LogtreeCollides", spec := "logtreeCollides", recurses := true, named := ["replevin/sha256.constants"], plainKeys := false, apart := false, laid := [("replevin/sha256.constants", laid_replevin_sha256_constants)] }
def LogtreeCollidesSaid : Prop := logtreeCollidesRow.holds Tryd.pinned (OpenSpec.ofChange logtreeCollidesSpec)

/-- ITS FALSE NEIGHBOUR: 'it returns false'. Refute it at one input. -/
def logtreeCollidesWrong : ChangeSpec := { name := "logtreeCollides", fn := fun _ => fun
  | [d1, d2, d3] => { results := [.lit (.bool false)], args := [d1, d2, d3] }
  | _ => none }
def LogtreeCollidesWrongFalsely : Prop := logtreeCollidesRow.holds Tryd.pinned (OpenSpec.ofChange logtreeCollidesWrong)

/-- 'replevinlaw06.LogtreeIncludes': WHATEVER THE INPUT: true; the input reads as it did. -/
def logtreeIncludesSpec : ChangeSpec := { name := "logtreeIncludes", fn := fun _ => fun
  | [d1, d2] => { results := [.lit (.bool true)], args := [d1, d2] }
  | _ => none }
def logtreeIncludesRow : OpenClaim := { program := "yteehpfccegnjjaadoor", sum := "31c7869759c95fb1fb7d46b519fdc37e6fd93f3fb15755accabc8a7e91214f13", func := "replevin/replevinlaw06.LogtreeIncludes", spec := "logtreeIncludes", recurses := true, named := ["replevin/sha256.constants"], plainKeys := false, apart := false, laid := [("replevin/sha256.constants", laid_replevin_sha256_constants)] }
def LogtreeIncludesSaid : Prop := logtreeIncludesRow.holds Tryd.pinned (OpenSpec.ofChange logtreeIncludesSpec)

/-- ITS FALSE NEIGHBOUR: 'it returns false'. Refute it at one input. -/
def logtreeIncludesWrong : ChangeSpec := { name := "logtreeIncludes", fn := fun _ => fun
  | [d1, d2] => { results := [.lit (.bool false)], args := [d1, d2] }
  | _ => none }
def LogtreeIncludesWrongFalsely : Prop := logtreeIncludesRow.holds Tryd.pinned (OpenSpec.ofChange logtreeIncludesWrong)

/-- 'replevinlaw06.LogtreeExtends': WHATEVER THE INPUT: true; the input reads as it did. -/
def logtreeExtendsSpec : ChangeSpec := { name := "logtreeExtends", fn := fun _ => fun
  | [d1, d2, d3] => { results := [.lit (.bool true)], args := [d1, d2, d3] }
  | _ => none }
def logtreeExtendsRow : OpenClaim := { program := "yteehpfccegnjjaadoor", sum := "31c7869759c95fb1fb7d46b519fdc37e6fd93f3fb15755accabc8a7e91214f13", func := "replevin/replevinlaw06.LogtreeExtends", spec := "logtreeExtends", recurses := true, named := ["replevin/sha256.constants"], plainKeys := false, apart := false, laid := [("replevin/sha256.constants", laid_replevin_sha256_constants)] }
def LogtreeExtendsSaid : Prop := logtreeExtendsRow.holds Tryd.pinned (OpenSpec.ofChange logtreeExtendsSpec)

/-- ITS FALSE NEIGHBOUR: 'it returns false'. Refute it at one input. -/
def logtreeExtendsWrong : ChangeSpec := { name := "logtreeExtends", fn := fun _ => fun
  | [d1, d2, d3] => { results := [.lit (.bool false)], args := [d1, d2, d3] }
  | _ => none }
def LogtreeExtendsWrongFalsely : Prop := logtreeExtendsRow.holds Tryd.pinned (OpenSpec.ofChange logtreeExtendsWrong)

/-- 'replevinlaw06.LogtreeTrees': WHATEVER THE INPUT: true; the input reads as it did. -/
def logtreeTreesSpec : ChangeSpec := { name := "logtreeTrees", fn := fun _ => fun
  | [d1, d2, d3] => { results := [.lit (.bool true)], args := [d1, d2, d3] }
  | _ => none }
def logtreeTreesRow : OpenClaim := { program := "yteehpfccegnjjaadoor", sum := "31c7869759c95fb1fb7d46b519fdc37e6fd93f3fb15755accabc8a7e91214f13", func := "replevin/replevinlaw06.LogtreeTrees", spec := "logtreeTrees", recurses := true, named := ["replevin/sha256.constants"], plainKeys := false, apart := false, laid := [("replevin/sha256.constants", laid_replevin_sha256_constants)] }
def LogtreeTreesSaid : Prop := logtreeTreesRow.holds Tryd.pinned (OpenSpec.ofChange logtreeTreesSpec)

/-- ITS FALSE NEIGHBOUR: 'it returns false'. Refute it at one input. -/
def logtreeTreesWrong : ChangeSpec := { name := "logtreeTrees", fn := fun _ => fun
  | [d1, d2, d3] => { results := [.lit (.bool false)], args := [d1, d2, d3] }
  | _ => none }
def LogtreeTreesWrongFalsely : Prop := logtreeTreesRow.holds Tryd.pinned (OpenSpec.ofChange logtreeTreesWrong)

/-- 'replevinlaw06.LogtreeTruncates': WHATEVER THE INPUT: true; the input reads as it did. -/
def logtreeTruncatesSpec : ChangeSpec := { name := "logtreeTruncates", fn := fun _ => fun
  | [d1, d2, d3] => { results := [.lit (.bool true)], args := [d1, d2, d3] }
  | _ => none }
def logtreeTruncatesRow : OpenClaim := { program := "yteehpfccegnjjaadoor", sum := "31c7869759c95fb1fb7d46b519fdc37e6fd93f3fb15755accabc8a7e91214f13", func := "replevin/replevinlaw06.LogtreeTruncates", spec := "logtreeTruncates", recurses := true, named := ["replevin/sha256.constants"], plainKeys := false, apart := false, laid := [("replevin/sha256.constants", laid_replevin_sha256_constants)] }
def LogtreeTruncatesSaid : Prop := logtreeTruncatesRow.holds Tryd.pinned (OpenSpec.ofChange logtreeTruncatesSpec)

/-- ITS FALSE NEIGHBOUR: 'it returns false'. Refute it at one input. -/
def logtreeTruncatesWrong : ChangeSpec := { name := "logtreeTruncates", fn := fun _ => fun
  | [d1, d2, d3] => { results := [.lit (.bool false)], args := [d1, d2, d3] }
  | _ => none }
def LogtreeTruncatesWrongFalsely : Prop := logtreeTruncatesRow.holds Tryd.pinned (OpenSpec.ofChange logtreeTruncatesWrong)

/-- 'replevinlaw06.LogtreeNil': WHATEVER THE INPUT: true; the input reads as it did. -/
def logtreeNilSpec : ChangeSpec := { name := "logtreeNil", fn := fun _ => fun
  | [d1, d2, d3] => { results := [.lit (.bool true)], args := [d1, d2, d3] }
  | _ => none }
def logtreeNilRow : OpenClaim := { program := "yteehpfccegnjjaadoor", sum := "31c7869759c95fb1fb7d46b519fdc37e6fd93f3fb15755accabc8a7e91214f13", func := "replevin/replevinlaw06.LogtreeNil", spec := "logtreeNil", recurses := true, named := ["replevin/sha256.constants"], plainKeys := false, apart := false, laid := [("replevin/sha256.constants", laid_replevin_sha256_constants)] }
def LogtreeNilSaid : Prop := logtreeNilRow.holds Tryd.pinned (OpenSpec.ofChange logtreeNilSpec)

/-- ITS FALSE NEIGHBOUR: 'it returns false'. Refute it at one input. -/
def logtreeNilWrong : ChangeSpec := { name := "logtreeNil", fn := fun _ => fun
  | [d1, d2, d3] => { results := [.lit (.bool false)], args := [d1, d2, d3] }
  | _ => none }
def LogtreeNilWrongFalsely : Prop := logtreeNilRow.holds Tryd.pinned (OpenSpec.ofChange logtreeNilWrong)

/- THE SECOND FORM. 'bulk': how many values and letters a reading holds, each counted each time it is reached (what is shared counts as often as it is met; a slice's spare places count too). A statement '..UptoSaid' is the law's where the arguments, and the package variables that the reading takes, are together of bulk at most 1048576: NARROWER than '..Said'. Prove '..Said' where nothing that the law and all that it calls make is longer than what came in: it says more and counts as full. Else prove '..UptoSaid'. A law counts once. -/
mutual
def uptoBulk {H : Type} : DataW H → Nat
  | .lit (.string bytes) => bytes.length + 1
  | .lit _ => 1
  | .nil => 1
  | .ptr d => uptoBulk d + 1
  | .slice elems spare => uptoBulkAll elems + uptoBulkAll spare + 1
  | .agg parts => uptoBulkAll parts + 1
  | .iface _ d => uptoBulk d + 1
  | .map entries => uptoBulkEntries entries + 1
  | .held _ => 1
def uptoBulkAll {H : Type} : List (DataW H) → Nat
  | [] => 0
  | d :: r => uptoBulk d + uptoBulkAll r
def uptoBulkEntries {H : Type} : List (Lit × DataW H) → Nat
  | [] => 0
  | x :: r => uptoBulkEntry x + uptoBulkEntries r
def uptoBulkEntry {H : Type} : Lit × DataW H → Nat
  | (.string bytes, d) => bytes.length + uptoBulk d + 1
  | (_, d) => uptoBulk d + 1
 end
def uptoSmall : (H : Type) → List (DataW H) → Bool := fun _ ds => decide (uptoBulkAll ds ≤ 1048576)
def OpenSpec.upto (s : _root_.Go.ChangeSpec) : _root_.Go.OpenSpec := { _root_.Go.OpenSpec.ofChange s with cond := some uptoSmall }

/-- 'replevinlaw06.LogtreeRoots', WHERE WHAT IT READS IS OF BULK AT MOST 1048576: true; the input reads as it did. -/
def logtreeRootsUptoRow : OpenClaim := { program := "yteehpfccegnjjaadoor", sum := "31c7869759c95fb1fb7d46b519fdc37e6fd93f3fb15755accabc8a7e91214f13", func := "replevin/replevinlaw06.LogtreeRoots", spec := "logtreeRoots", recurses := true, named := ["replevin/sha256.constants"], plainKeys := false, apart := false, laid := [("replevin/sha256.constants", laid_replevin_sha256_constants)], narrowed := true }
def LogtreeRootsUptoSaid : Prop := logtreeRootsUptoRow.holds Tryd.pinned (OpenSpec.upto logtreeRootsSpec)

/-- 'replevinlaw06.LogtreeFrom', WHERE WHAT IT READS IS OF BULK AT MOST 1048576: true; the input reads as it did. -/
def logtreeFromUptoRow : OpenClaim := { program := "yteehpfccegnjjaadoor", sum := "31c7869759c95fb1fb7d46b519fdc37e6fd93f3fb15755accabc8a7e91214f13", func := "replevin/replevinlaw06.LogtreeFrom", spec := "logtreeFrom", recurses := true, named := ["replevin/sha256.constants"], plainKeys := false, apart := false, laid := [("replevin/sha256.constants", laid_replevin_sha256_constants)], narrowed := true }
def LogtreeFromUptoSaid : Prop := logtreeFromUptoRow.holds Tryd.pinned (OpenSpec.upto logtreeFromSpec)

/-- 'replevinlaw06.LogtreeExtendRaw', WHERE WHAT IT READS IS OF BULK AT MOST 1048576: true; the input reads as it did. -/
def logtreeExtendRawUptoRow : OpenClaim := { program := "yteehpfccegnjjaadoor", sum := "31c7869759c95fb1fb7d46b519fdc37e6fd93f3fb15755accabc8a7e91214f13", func := "replevin/replevinlaw06.LogtreeExtendRaw", spec := "logtreeExtendRaw", recurses := true, named := ["replevin/sha256.constants"], plainKeys := false, apart := false, laid := [("replevin/sha256.constants", laid_replevin_sha256_constants)], narrowed := true }
def LogtreeExtendRawUptoSaid : Prop := logtreeExtendRawUptoRow.holds Tryd.pinned (OpenSpec.upto logtreeExtendRawSpec)

/-- 'replevinlaw06.LogtreeCollides', WHERE WHAT IT READS IS OF BULK AT MOST 1048576: true; the input reads as it did. -/
def logtreeCollidesUptoRow : OpenClaim := { program := "yteehpfccegnjjaadoor", sum := "31c7869759c95fb1fb7d46b519fdc37e6fd93f3fb15755accabc8a7e91214f13", func := "replevin/replevinlaw06.LogtreeCollides", spec := "logtreeCollides", recurses := true, named := ["replevin/sha256.constants"], plainKeys := false, apart := false, laid := [("replevin/sha256.constants", laid_replevin_sha256_constants)], narrowed := true }
def LogtreeCollidesUptoSaid : Prop := logtreeCollidesUptoRow.holds Tryd.pinned (OpenSpec.upto logtreeCollidesSpec)

/-- 'replevinlaw06.LogtreeIncludes', WHERE WHAT IT READS IS OF BULK AT MOST 1048576: true; the input reads as it did. -/
def logtreeIncludesUptoRow : OpenClaim := { program := "yteehpfccegnjjaadoor", sum := "31c7869759c95fb1fb7d46b519fdc37e6fd93f3fb15755accabc8a7e91214f13", func := "replevin/replevinlaw06.LogtreeIncludes", spec := "logtreeIncludes", recurses := true, named := ["replevin/sha256.constants"], plainKeys := false, apart := false, laid := [("replevin/sha256.constants", laid_replevin_sha256_constants)], narrowed := true }
def LogtreeIncludesUptoSaid : Prop := logtreeIncludesUptoRow.holds Tryd.pinned (OpenSpec.upto logtreeIncludesSpec)

/-- 'replevinlaw06.LogtreeExtends', WHERE WHAT IT READS IS OF BULK AT MOST 1048576: true; the input reads as it did. -/
def logtreeExtendsUptoRow : OpenClaim := { program := "yteehpfccegnjjaadoor", sum := "31c7869759c95fb1fb7d46b519fdc37e6fd93f3fb15755accabc8a7e91214f13", func := "replevin/replevinlaw06.LogtreeExtends", spec := "logtreeExtends", recurses := true, named := ["replevin/sha256.constants"], plainKeys := false, apart := false, laid := [("replevin/sha256.constants", laid_replevin_sha256_constants)], narrowed := true }
def LogtreeExtendsUptoSaid : Prop := logtreeExtendsUptoRow.holds Tryd.pinned (OpenSpec.upto logtreeExtendsSpec)

/-- 'replevinlaw06.LogtreeTrees', WHERE WHAT IT READS IS OF BULK AT MOST 1048576: true; the input reads as it did. -/
def logtreeTreesUptoRow : OpenClaim := { program := "yteehpfccegnjjaadoor", sum := "31c7869759c95fb1fb7d46b519fdc37e6fd93f3fb15755accabc8a7e91214f13", func := "replevin/replevinlaw06.LogtreeTrees", spec := "logtreeTrees", recurses := true, named := ["replevin/sha256.constants"], plainKeys := false, apart := false, laid := [("replevin/sha256.constants", laid_replevin_sha256_constants)], narrowed := true }
def LogtreeTreesUptoSaid : Prop := logtreeTreesUptoRow.holds Tryd.pinned (OpenSpec.upto logtreeTreesSpec)

/-- 'replevinlaw06.LogtreeTruncates', WHERE WHAT IT READS IS OF BULK AT MOST 1048576: true; the input reads as it did. -/
def logtreeTruncatesUptoRow : OpenClaim := { program := "yteehpfccegnjjaadoor", sum := "31c7869759c95fb1fb7d46b519fdc37e6fd93f3fb15755accabc8a7e91214f13", func := "replevin/replevinlaw06.LogtreeTruncates", spec := "logtreeTruncates", recurses := true, named := ["replevin/sha256.constants"], plainKeys := false, apart := false, laid := [("replevin/sha256.constants", laid_replevin_sha256_constants)], narrowed := true }
def LogtreeTruncatesUptoSaid : Prop := logtreeTruncatesUptoRow.holds Tryd.pinned (OpenSpec.upto logtreeTruncatesSpec)

/-- 'replevinlaw06.LogtreeNil', WHERE WHAT IT READS IS OF BULK AT MOST 1048576: true; the input reads as it did. -/
def logtreeNilUptoRow : OpenClaim := { program := "yteehpfccegnjjaadoor", sum := "31c7869759c95fb1fb7d46b519fdc37e6fd93f3fb15755accabc8a7e91214f13", func := "replevin/replevinlaw06.LogtreeNil", spec := "logtreeNil", recurses := true, named := ["replevin/sha256.constants"], plainKeys := false, apart := false, laid := [("replevin/sha256.constants", laid_replevin_sha256_constants)], narrowed := true }
def LogtreeNilUptoSaid : Prop := logtreeNilUptoRow.holds Tryd.pinned (OpenSpec.upto logtreeNilSpec)

end Rows
end Go.Proofs.YteehpfccegnjjaaDoor
