/-
  DERIVED. GIVEN WITH THE SEED: THE CARDS: each row of YtbhnjkegkadodaaGreatDoorRows.lean that lists a variable, with what it lists TIED to the program's text (the seventh form; the later family's looks); each row that meets fmt, with fmt's text TOLD by the authors' own Lean function (tested against real Go, not proved from fmt's source: count such statements apart). THE CARD IS WHAT COUNTS. Prove the row's statement (the work); the ties are given (YtbhnjkegkadodaaGreatDoorTie.lean); close each card by the builder's one call (the guide's Derived/Test/ToyasCard.lean, 'card_holds'). Laid BY PROGRAM, IN A SANDBOX (cutbox-door.mjs). By AI agents, Wed Nov 11 2026. No macro, syntax, notation, axiom, sorry.
-/
import Derived.Test.YtbhnjkegkadodaaGreatDoorRows
import GoSem.ClaimSeven
namespace Go.Proofs.YtbhnjkegkadodaaGreatDoor
namespace Rows

/-- THE TIED CARD OF 'gleanlaw13.F1Plays'. -/
def f1PlaysCard : Claim7 := { stood := { row := f1PlaysRow, standIns := [], harness := (true, "2d9a713171d342c3ab802703173e7c0d9500a11769beb5a13af86be52671328f"), looks := false }, kinds := [], alts := [], laidByText := true, laidKinds := [.data, .data, .data, .data, .pinned], laidTests := true, laidLooks := .later }
def F1PlaysCardSaid : Prop := Claim7.holds Tryz.pinned (.plain (OpenSpec.ofChange f1PlaysSpec)) f1PlaysCard

/-- THE TIED CARD OF 'gleanlaw13.F1Exact'. -/
def f1ExactCard : Claim7 := { stood := { row := f1ExactRow, standIns := [], harness := (true, "2d9a713171d342c3ab802703173e7c0d9500a11769beb5a13af86be52671328f"), looks := false }, kinds := [], alts := [], laidByText := true, laidKinds := [.data, .data, .data, .data, .pinned], laidTests := true, laidLooks := .later }
def F1ExactCardSaid : Prop := Claim7.holds Tryz.pinned (.plain (OpenSpec.ofChange f1ExactSpec)) f1ExactCard

/-- THE TIED CARD OF 'gleanlaw13.F1Counts'. -/
def f1CountsCard : Claim7 := { stood := { row := f1CountsRow, standIns := [], harness := (true, "2d9a713171d342c3ab802703173e7c0d9500a11769beb5a13af86be52671328f"), looks := false }, kinds := [], alts := [], laidByText := true, laidKinds := [.data, .data, .data, .data, .pinned], laidTests := true, laidLooks := .later }
def F1CountsCardSaid : Prop := Claim7.holds Tryz.pinned (.plain (OpenSpec.ofChange f1CountsSpec)) f1CountsCard

/-- THE TIED CARD OF 'gleanlaw13.F1Sums'. -/
def f1SumsCard : Claim7 := { stood := { row := f1SumsRow, standIns := [], harness := (true, "2d9a713171d342c3ab802703173e7c0d9500a11769beb5a13af86be52671328f"), looks := false }, kinds := [], alts := [], laidByText := true, laidKinds := [.data, .data, .data, .data, .pinned], laidTests := true, laidLooks := .later }
def F1SumsCardSaid : Prop := Claim7.holds Tryz.pinned (.plain (OpenSpec.ofChange f1SumsSpec)) f1SumsCard

/-- THE TIED CARD OF 'gleanlaw13.F1Split'. -/
def f1SplitCard : Claim7 := { stood := { row := f1SplitRow, standIns := [], harness := (true, "2d9a713171d342c3ab802703173e7c0d9500a11769beb5a13af86be52671328f"), looks := false }, kinds := [], alts := [], laidByText := true, laidKinds := [.data, .data, .data, .data, .pinned], laidTests := true, laidLooks := .later }
def F1SplitCardSaid : Prop := Claim7.holds Tryz.pinned (.plain (OpenSpec.ofChange f1SplitSpec)) f1SplitCard

/-- THE TIED CARD OF 'gleanlaw13.F1Alike'. -/
def f1AlikeCard : Claim7 := { stood := { row := f1AlikeRow, standIns := [], harness := (true, "2d9a713171d342c3ab802703173e7c0d9500a11769beb5a13af86be52671328f"), looks := false }, kinds := [], alts := [], laidByText := true, laidKinds := [.data, .data, .data, .data, .pinned], laidTests := true, laidLooks := .later }
def F1AlikeCardSaid : Prop := Claim7.holds Tryz.pinned (.plain (OpenSpec.ofChange f1AlikeSpec)) f1AlikeCard

/-- THE SECOND FORM's CARD OF 'gleanlaw13.F1Plays'. -/
def f1PlaysUptoCard : Claim7 := { stood := { row := f1PlaysUptoRow, standIns := [], harness := (true, "2d9a713171d342c3ab802703173e7c0d9500a11769beb5a13af86be52671328f"), looks := false }, kinds := [], alts := [], laidByText := true, laidKinds := [.data, .data, .data, .data, .pinned], laidTests := true, laidLooks := .later }
def F1PlaysUptoCardSaid : Prop := Claim7.holds Tryz.pinned (.plain (OpenSpec.upto f1PlaysSpec)) f1PlaysUptoCard

/-- THE SECOND FORM's CARD OF 'gleanlaw13.F1Exact'. -/
def f1ExactUptoCard : Claim7 := { stood := { row := f1ExactUptoRow, standIns := [], harness := (true, "2d9a713171d342c3ab802703173e7c0d9500a11769beb5a13af86be52671328f"), looks := false }, kinds := [], alts := [], laidByText := true, laidKinds := [.data, .data, .data, .data, .pinned], laidTests := true, laidLooks := .later }
def F1ExactUptoCardSaid : Prop := Claim7.holds Tryz.pinned (.plain (OpenSpec.upto f1ExactSpec)) f1ExactUptoCard

/-- THE SECOND FORM's CARD OF 'gleanlaw13.F1Counts'. -/
def f1CountsUptoCard : Claim7 := { stood := { row := f1CountsUptoRow, standIns := [], harness := (true, "2d9a713171d342c3ab802703173e7c0d9500a11769beb5a13af86be52671328f"), looks := false }, kinds := [], alts := [], laidByText := true, laidKinds := [.data, .data, .data, .data, .pinned], laidTests := true, laidLooks := .later }
def F1CountsUptoCardSaid : Prop := Claim7.holds Tryz.pinned (.plain (OpenSpec.upto f1CountsSpec)) f1CountsUptoCard

/-- THE SECOND FORM's CARD OF 'gleanlaw13.F1Sums'. -/
def f1SumsUptoCard : Claim7 := { stood := { row := f1SumsUptoRow, standIns := [], harness := (true, "2d9a713171d342c3ab802703173e7c0d9500a11769beb5a13af86be52671328f"), looks := false }, kinds := [], alts := [], laidByText := true, laidKinds := [.data, .data, .data, .data, .pinned], laidTests := true, laidLooks := .later }
def F1SumsUptoCardSaid : Prop := Claim7.holds Tryz.pinned (.plain (OpenSpec.upto f1SumsSpec)) f1SumsUptoCard

/-- THE SECOND FORM's CARD OF 'gleanlaw13.F1Split'. -/
def f1SplitUptoCard : Claim7 := { stood := { row := f1SplitUptoRow, standIns := [], harness := (true, "2d9a713171d342c3ab802703173e7c0d9500a11769beb5a13af86be52671328f"), looks := false }, kinds := [], alts := [], laidByText := true, laidKinds := [.data, .data, .data, .data, .pinned], laidTests := true, laidLooks := .later }
def F1SplitUptoCardSaid : Prop := Claim7.holds Tryz.pinned (.plain (OpenSpec.upto f1SplitSpec)) f1SplitUptoCard

/-- THE SECOND FORM's CARD OF 'gleanlaw13.F1Alike'. -/
def f1AlikeUptoCard : Claim7 := { stood := { row := f1AlikeUptoRow, standIns := [], harness := (true, "2d9a713171d342c3ab802703173e7c0d9500a11769beb5a13af86be52671328f"), looks := false }, kinds := [], alts := [], laidByText := true, laidKinds := [.data, .data, .data, .data, .pinned], laidTests := true, laidLooks := .later }
def F1AlikeUptoCardSaid : Prop := Claim7.holds Tryz.pinned (.plain (OpenSpec.upto f1AlikeSpec)) f1AlikeUptoCard
end Rows
end Go.Proofs.YtbhnjkegkadodaaGreatDoor
