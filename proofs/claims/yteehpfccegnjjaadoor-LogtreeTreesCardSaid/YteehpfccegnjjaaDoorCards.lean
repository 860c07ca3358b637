/-
  DERIVED. GIVEN WITH THE SEED: THE CARDS: each row of YteehpfccegnjjaaDoorRows.lean that lists a variable, with what it lists TIED to the program's text (the seventh form; the later family's looks); each row that meets fmt, with fmt's text TOLD by the authors' own Lean function (tested against real Go, not proved from fmt's source: count such statements apart). THE CARD IS WHAT COUNTS. Prove the row's statement (the work); the ties are given (YteehpfccegnjjaaDoorTie.lean); close each card by the builder's one call (the guide's Derived/Test/ToyasCard.lean, 'card_holds'). Laid BY PROGRAM, IN A SANDBOX (cutbox-door.mjs). By AI agents, Wed Nov 11 2026. No macro, syntax, notation, axiom, sorry.
-/
import Derived.Test.YteehpfccegnjjaaDoorRows
import GoSem.ClaimSeven
namespace Go.Proofs.YteehpfccegnjjaaDoor
namespace Rows

/-- THE TIED CARD OF 'replevinlaw06.LogtreeRoots'. -/
def logtreeRootsCard : Claim7 := { stood := { row := logtreeRootsRow, standIns := [], harness := (true, "d82d070d758510dec79c2988874e28ba849c88df919d3737119f6e4b7c021663"), looks := false }, kinds := [], alts := [], laidByText := true, laidKinds := [.data], laidTests := true, laidLooks := .later }
def LogtreeRootsCardSaid : Prop := Claim7.holds Tryd.pinned (.plain (OpenSpec.ofChange logtreeRootsSpec)) logtreeRootsCard

/-- THE TIED CARD OF 'replevinlaw06.LogtreeFrom'. -/
def logtreeFromCard : Claim7 := { stood := { row := logtreeFromRow, standIns := [], harness := (true, "d82d070d758510dec79c2988874e28ba849c88df919d3737119f6e4b7c021663"), looks := false }, kinds := [], alts := [], laidByText := true, laidKinds := [.data], laidTests := true, laidLooks := .later }
def LogtreeFromCardSaid : Prop := Claim7.holds Tryd.pinned (.plain (OpenSpec.ofChange logtreeFromSpec)) logtreeFromCard

/-- THE TIED CARD OF 'replevinlaw06.LogtreeExtendRaw'. -/
def logtreeExtendRawCard : Claim7 := { stood := { row := logtreeExtendRawRow, standIns := [], harness := (true, "d82d070d758510dec79c2988874e28ba849c88df919d3737119f6e4b7c021663"), looks := false }, kinds := [], alts := [], laidByText := true, laidKinds := [.data], laidTests := true, laidLooks := .later }
def LogtreeExtendRawCardSaid : Prop := Claim7.holds Tryd.pinned (.plain (OpenSpec.ofChange logtreeExtendRawSpec)) logtreeExtendRawCard

/-- THE TIED CARD OF 'replevinlaw06.LogtreeCollides'. -/
def logtreeCollidesCard : Claim7 := { stood := { row := logtreeCollidesRow, standIns := [], harness := (true, "d82d070d758510dec79c2988874e28ba849c88df919d3737119f6e4b7c021663"), looks := false }, kinds := [], alts := [], laidByText := true, laidKinds := [.data], laidTests := true, laidLooks := .later }
def LogtreeCollidesCardSaid : Prop := Claim7.holds Tryd.pinned (.plain (OpenSpec.ofChange logtreeCollidesSpec)) logtreeCollidesCard

/-- THE TIED CARD OF 'replevinlaw06.LogtreeIncludes'. -/
def logtreeIncludesCard : Claim7 := { stood := { row := logtreeIncludesRow, standIns := [], harness := (true, "d82d070d758510dec79c2988874e28ba849c88df919d3737119f6e4b7c021663"), looks := false }, kinds := [], alts := [], laidByText := true, laidKinds := [.data], laidTests := true, laidLooks := .later }
def LogtreeIncludesCardSaid : Prop := Claim7.holds Tryd.pinned (.plain (OpenSpec.ofChange logtreeIncludesSpec)) logtreeIncludesCard

/-- THE TIED CARD OF 'replevinlaw06.LogtreeExtends'. -/
def logtreeExtendsCard : Claim7 := { stood := { row := logtreeExtendsRow, standIns := [], harness := (true, "d82d070d758510dec79c2988874e28ba849c88df919d3737119f6e4b7c021663"), looks := false }, kinds := [], alts := [], laidByText := true, laidKinds := [.data], laidTests := true, laidLooks := .later }
def LogtreeExtendsCardSaid : Prop := Claim7.holds Tryd.pinned (.plain (OpenSpec.ofChange logtreeExtendsSpec)) logtreeExtendsCard

/-- THE TIED CARD OF 'replevinlaw06.LogtreeTrees'. -/
def logtreeTreesCard : Claim7 := { stood := { row := logtreeTreesRow, standIns := [], harness := (true, "d82d070d758510dec79c2988874e28ba849c88df919d3737119f6e4b7c021663"), looks := false }, kinds := [], alts := [], laidByText := true, laidKinds := [.data], laidTests := true, laidLooks := .later }
def LogtreeTreesCardSaid : Prop := Claim7.holds Tryd.pinned (.plain (OpenSpec.ofChange logtreeTreesSpec)) logtreeTreesCard

/-- THE TIED CARD OF 'replevinlaw06.LogtreeTruncates'. -/
def logtreeTruncatesCard : Claim7 := { stood := { row := logtreeTruncatesRow, standIns := [], harness := (true, "d82d070d758510dec79c2988874e28ba849c88df919d3737119f6e4b7c021663"), looks := false }, kinds := [], alts := [], laidByText := true, laidKinds := [.data], laidTests := true, laidLooks := .later }
def LogtreeTruncatesCardSaid : Prop := Claim7.holds Tryd.pinned (.plain (OpenSpec.ofChange logtreeTruncatesSpec)) logtreeTruncatesCard

/-- THE TIED CARD OF 'replevinlaw06.LogtreeNil'. -/
def logtreeNilCard : Claim7 := { stood := { row := logtreeNilRow, standIns := [], harness := (true, "d82d070d758510dec79c2988874e28ba849c88df919d3737119f6e4b7c021663"), looks := false }, kinds := [], alts := [], laidByText := true, laidKinds := [.data], laidTests := true, laidLooks := .later }
def LogtreeNilCardSaid : Prop := Claim7.holds Tryd.pinned (.plain (OpenSpec.ofChange logtreeNilSpec)) logtreeNilCard

/-- THE SECOND FORM's CARD OF 'replevinlaw06.LogtreeRoots'. -/
def logtreeRootsUptoCard : Claim7 := { stood := { row := logtreeRootsUptoRow, standIns := [], harness := (true, "d82d070d758510dec79c2988874e28ba849c88df919d3737119f6e4b7c021663"), looks := false }, kinds := [], alts := [], laidByText := true, laidKinds := [.data], laidTests := true, laidLooks := .later }
def LogtreeRootsUptoCardSaid : Prop := Claim7.holds Tryd.pinned (.plain (OpenSpec.upto logtreeRootsSpec)) logtreeRootsUptoCard

/-- THE SECOND FORM's CARD OF 'replevinlaw06.LogtreeFrom'. -/
def logtreeFromUptoCard : Claim7 := { stood := { row := logtreeFromUptoRow, standIns := [], harness := (true, "d82d070d758510dec79c2988874e28ba849c88df919d3737119f6e4b7c021663"), looks := false }, kinds := [], alts := [], laidByText := true, laidKinds := [.data], laidTests := true, laidLooks := .later }
def LogtreeFromUptoCardSaid : Prop := Claim7.holds Tryd.pinned (.plain (OpenSpec.upto logtreeFromSpec)) logtreeFromUptoCard

/-- THE SECOND FORM's CARD OF 'replevinlaw06.LogtreeExtendRaw'. -/
def logtreeExtendRawUptoCard : Claim7 := { stood := { row := logtreeExtendRawUptoRow, standIns := [], harness := (true, "d82d070d758510dec79c2988874e28ba849c88df919d3737119f6e4b7c021663"), looks := false }, kinds := [], alts := [], laidByText := true, laidKinds := [.data], laidTests := true, laidLooks := .later }
def LogtreeExtendRawUptoCardSaid : Prop := Claim7.holds Tryd.pinned (.plain (OpenSpec.upto logtreeExtendRawSpec)) logtreeExtendRawUptoCard

/-- THE SECOND FORM's CARD OF 'replevinlaw06.LogtreeCollides'. -/
def logtreeCollidesUptoCard : Claim7 := { stood := { row := logtreeCollidesUptoRow, standIns := [], harness := (true, "d82d070d758510dec79c2988874e28ba849c88df919d3737119f6e4b7c021663"), looks := false }, kinds := [], alts := [], laidByText := true, laidKinds := [.data], laidTests := true, laidLooks := .later }
def LogtreeCollidesUptoCardSaid : Prop := Claim7.holds Tryd.pinned (.plain (OpenSpec.upto logtreeCollidesSpec)) logtreeCollidesUptoCard

/-- THE SECOND FORM's CARD OF 'replevinlaw06.LogtreeIncludes'. -/
def logtreeIncludesUptoCard : Claim7 := { stood := { row := logtreeIncludesUptoRow, standIns := [], harness := (true, "d82d070d758510dec79c2988874e28ba849c88df919d3737119f6e4b7c021663"), looks := false }, kinds := [], alts := [], laidByText := true, laidKinds := [.data], laidTests := true, laidLooks := .later }
def LogtreeIncludesUptoCardSaid : Prop := Claim7.holds Tryd.pinned (.plain (OpenSpec.upto logtreeIncludesSpec)) logtreeIncludesUptoCard

/-- THE SECOND FORM's CARD OF 'replevinlaw06.LogtreeExtends'. -/
def logtreeExtendsUptoCard : Claim7 := { stood := { row := logtreeExtendsUptoRow, standIns := [], harness := (true, "d82d070d758510dec79c2988874e28ba849c88df919d3737119f6e4b7c021663"), looks := false }, kinds := [], alts := [], laidByText := true, laidKinds := [.data], laidTests := true, laidLooks := .later }
def LogtreeExtendsUptoCardSaid : Prop := Claim7.holds Tryd.pinned (.plain (OpenSpec.upto logtreeExtendsSpec)) logtreeExtendsUptoCard

/-- THE SECOND FORM's CARD OF 'replevinlaw06.LogtreeTrees'. -/
def logtreeTreesUptoCard : Claim7 := { stood := { row := logtreeTreesUptoRow, standIns := [], harness := (true, "d82d070d758510dec79c2988874e28ba849c88df919d3737119f6e4b7c021663"), looks := false }, kinds := [], alts := [], laidByText := true, laidKinds := [.data], laidTests := true, laidLooks := .later }
def LogtreeTreesUptoCardSaid : Prop := Claim7.holds Tryd.pinned (.plain (OpenSpec.upto logtreeTreesSpec)) logtreeTreesUptoCard

/-- THE SECOND FORM's CARD OF 'replevinlaw06.LogtreeTruncates'. -/
def logtreeTruncatesUptoCard : Claim7 := { stood := { row := logtreeTruncatesUptoRow, standIns := [], harness := (true, "d82d070d758510dec79c2988874e28ba849c88df919d3737119f6e4b7c021663"), looks := false }, kinds := [], alts := [], laidByText := true, laidKinds := [.data], laidTests := true, laidLooks := .later }
def LogtreeTruncatesUptoCardSaid : Prop := Claim7.holds Tryd.pinned (.plain (OpenSpec.upto logtreeTruncatesSpec)) logtreeTruncatesUptoCard

/-- THE SECOND FORM's CARD OF 'replevinlaw06.LogtreeNil'. -/
def logtreeNilUptoCard : Claim7 := { stood := { row := logtreeNilUptoRow, standIns := [], harness := (true, "d82d070d758510dec79c2988874e28ba849c88df919d3737119f6e4b7c021663"), looks := false }, kinds := [], alts := [], laidByText := true, laidKinds := [.data], laidTests := true, laidLooks := .later }
def LogtreeNilUptoCardSaid : Prop := Claim7.holds Tryd.pinned (.plain (OpenSpec.upto logtreeNilSpec)) logtreeNilUptoCard
end Rows
end Go.Proofs.YteehpfccegnjjaaDoor
