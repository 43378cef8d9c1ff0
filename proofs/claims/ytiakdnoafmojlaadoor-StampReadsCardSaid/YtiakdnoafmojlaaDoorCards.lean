/-
  DERIVED. GIVEN WITH THE SEED: THE CARDS: each row of YtiakdnoafmojlaaDoorRows.lean that lists a variable, with what it lists TIED to the program's text (the seventh form; the later family's looks); each row that meets fmt, with fmt's text TOLD by the authors' own Lean function (tested against real Go, not proved from fmt's source: count such statements apart). THE CARD IS WHAT COUNTS. Prove the row's statement (the work); the ties are given (YtiakdnoafmojlaaDoorTie.lean); close each card by the builder's one call (the guide's Derived/Test/ToyasCard.lean, 'card_holds'). Laid BY PROGRAM, IN A SANDBOX (cutbox-door.mjs). By AI agents, Wed Nov 11 2026. No macro, syntax, notation, axiom, sorry.
-/
import Derived.Test.YtiakdnoafmojlaaDoorRows
import GoSem.ClaimSeven
namespace Go.Proofs.YtiakdnoafmojlaaDoor
namespace Rows

/-- THE TIED CARD OF 'offshootlaw03.StampReads'. -/
def stampReadsCard : Claim7 := { stood := { row := stampReadsRow, standIns := [], harness := (true, "4ee430e30eeb10a942b9a3262a11ca3a09717c018b16e7b8627fe377c6771f18"), looks := true }, kinds := [], alts := [], laidByText := true, laidKinds := [.data, .data, .data, .data, .data, .sentinel, .sentinel], laidTests := true, laidLooks := .later }
def StampReadsCardSaid : Prop := Claim7.holds Tryd.pinned (.plain (OpenSpec.ofChange stampReadsSpec)) stampReadsCard

/-- THE TIED CARD OF 'offshootlaw03.StampBack'. -/
def stampBackCard : Claim7 := { stood := { row := stampBackRow, standIns := [], harness := (true, "4ee430e30eeb10a942b9a3262a11ca3a09717c018b16e7b8627fe377c6771f18"), looks := true }, kinds := [], alts := [], laidByText := true, laidKinds := [.data, .data, .data, .data, .data, .sentinel, .sentinel], laidTests := true, laidLooks := .later }
def StampBackCardSaid : Prop := Claim7.holds Tryd.pinned (.plain (OpenSpec.ofChange stampBackSpec)) stampBackCard

/-- THE TIED CARD OF 'offshootlaw03.StampClocks'. -/
def stampClocksCard : Claim7 := { stood := { row := stampClocksRow, standIns := [], harness := (true, "4ee430e30eeb10a942b9a3262a11ca3a09717c018b16e7b8627fe377c6771f18"), looks := true }, kinds := [], alts := [], laidByText := true, laidKinds := [.data, .data, .data, .data, .data, .sentinel, .sentinel], laidTests := true, laidLooks := .later }
def StampClocksCardSaid : Prop := Claim7.holds Tryd.pinned (.plain (OpenSpec.ofChange stampClocksSpec)) stampClocksCard

/-- THE TIED CARD OF 'offshootlaw03.StampAbove'. -/
def stampAboveCard : Claim7 := { stood := { row := stampAboveRow, standIns := [], harness := (true, "4ee430e30eeb10a942b9a3262a11ca3a09717c018b16e7b8627fe377c6771f18"), looks := true }, kinds := [], alts := [], laidByText := true, laidKinds := [.data, .data, .data, .data, .data, .sentinel, .sentinel], laidTests := true, laidLooks := .later }
def StampAboveCardSaid : Prop := Claim7.holds Tryd.pinned (.plain (OpenSpec.ofChange stampAboveSpec)) stampAboveCard

/-- THE TIED CARD OF 'offshootlaw03.StampOrder'. -/
def stampOrderCard : Claim7 := { stood := { row := stampOrderRow, standIns := [], harness := (true, "4ee430e30eeb10a942b9a3262a11ca3a09717c018b16e7b8627fe377c6771f18"), looks := true }, kinds := [], alts := [], laidByText := true, laidKinds := [.data, .data, .data, .data, .data, .sentinel, .sentinel], laidTests := true, laidLooks := .later }
def StampOrderCardSaid : Prop := Claim7.holds Tryd.pinned (.plain (OpenSpec.ofChange stampOrderSpec)) stampOrderCard

/-- THE TIED CARD OF 'offshootlaw03.StampAsks'. -/
def stampAsksCard : Claim7 := { stood := { row := stampAsksRow, standIns := [], harness := (true, "4ee430e30eeb10a942b9a3262a11ca3a09717c018b16e7b8627fe377c6771f18"), looks := true }, kinds := [], alts := [], laidByText := true, laidKinds := [.data, .data, .data, .data, .data, .sentinel, .sentinel], laidTests := true, laidLooks := .later }
def StampAsksCardSaid : Prop := Claim7.holds Tryd.pinned (.plain (OpenSpec.ofChange stampAsksSpec)) stampAsksCard

/-- THE SECOND FORM's CARD OF 'offshootlaw03.StampReads'. -/
def stampReadsUptoCard : Claim7 := { stood := { row := stampReadsUptoRow, standIns := [], harness := (true, "4ee430e30eeb10a942b9a3262a11ca3a09717c018b16e7b8627fe377c6771f18"), looks := true }, kinds := [], alts := [], laidByText := true, laidKinds := [.data, .data, .data, .data, .data, .sentinel, .sentinel], laidTests := true, laidLooks := .later }
def StampReadsUptoCardSaid : Prop := Claim7.holds Tryd.pinned (.plain (OpenSpec.upto stampReadsSpec)) stampReadsUptoCard

/-- THE SECOND FORM's CARD OF 'offshootlaw03.StampBack'. -/
def stampBackUptoCard : Claim7 := { stood := { row := stampBackUptoRow, standIns := [], harness := (true, "4ee430e30eeb10a942b9a3262a11ca3a09717c018b16e7b8627fe377c6771f18"), looks := true }, kinds := [], alts := [], laidByText := true, laidKinds := [.data, .data, .data, .data, .data, .sentinel, .sentinel], laidTests := true, laidLooks := .later }
def StampBackUptoCardSaid : Prop := Claim7.holds Tryd.pinned (.plain (OpenSpec.upto stampBackSpec)) stampBackUptoCard

/-- THE SECOND FORM's CARD OF 'offshootlaw03.StampClocks'. -/
def stampClocksUptoCard : Claim7 := { stood := { row := stampClocksUptoRow, standIns := [], harness := (true, "4ee430e30eeb10a942b9a3262a11ca3a09717c018b16e7b8627fe377c6771f18"), looks := true }, kinds := [], alts := [], laidByText := true, laidKinds := [.data, .data, .data, .data, .data, .sentinel, .sentinel], laidTests := true, laidLooks := .later }
def StampClocksUptoCardSaid : Prop := Claim7.holds Tryd.pinned (.plain (OpenSpec.upto stampClocksSpec)) stampClocksUptoCard

/-- THE SECOND FORM's CARD OF 'offshootlaw03.StampAbove'. -/
def stampAboveUptoCard : Claim7 := { stood := { row := stampAboveUptoRow, standIns := [], harness := (true, "4ee430e30eeb10a942b9a3262a11ca3a09717c018b16e7b8627fe377c6771f18"), looks := true }, kinds := [], alts := [], laidByText := true, laidKinds := [.data, .data, .data, .data, .data, .sentinel, .sentinel], laidTests := true, laidLooks := .later }
def StampAboveUptoCardSaid : Prop := Claim7.holds Tryd.pinned (.plain (OpenSpec.upto stampAboveSpec)) stampAboveUptoCard

/-- THE SECOND FORM's CARD OF 'offshootlaw03.StampOrder'. -/
def stampOrderUptoCard : Claim7 := { stood := { row := stampOrderUptoRow, standIns := [], harness := (true, "4ee430e30eeb10a942b9a3262a11ca3a09717c018b16e7b8627fe377c6771f18"), looks := true }, kinds := [], alts := [], laidByText := true, laidKinds := [.data, .data, .data, .data, .data, .sentinel, .sentinel], laidTests := true, laidLooks := .later }
def StampOrderUptoCardSaid : Prop := Claim7.holds Tryd.pinned (.plain (OpenSpec.upto stampOrderSpec)) stampOrderUptoCard

/-- THE SECOND FORM's CARD OF 'offshootlaw03.StampAsks'. -/
def stampAsksUptoCard : Claim7 := { stood := { row := stampAsksUptoRow, standIns := [], harness := (true, "4ee430e30eeb10a942b9a3262a11ca3a09717c018b16e7b8627fe377c6771f18"), looks := true }, kinds := [], alts := [], laidByText := true, laidKinds := [.data, .data, .data, .data, .data, .sentinel, .sentinel], laidTests := true, laidLooks := .later }
def StampAsksUptoCardSaid : Prop := Claim7.holds Tryd.pinned (.plain (OpenSpec.upto stampAsksSpec)) stampAsksUptoCard
end Rows
end Go.Proofs.YtiakdnoafmojlaaDoor
