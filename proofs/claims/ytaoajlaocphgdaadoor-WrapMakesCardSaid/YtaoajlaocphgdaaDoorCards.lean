/-
  DERIVED. GIVEN WITH THE SEED: THE CARDS: each row of YtaoajlaocphgdaaDoorRows.lean that lists a variable, with what it lists TIED to the program's text (the seventh form; the later family's looks); each row that meets fmt, with fmt's text TOLD by the authors' own Lean function (tested against real Go, not proved from fmt's source: count such statements apart). THE CARD IS WHAT COUNTS. Prove the row's statement (the work); the ties are given (YtaoajlaocphgdaaDoorTie.lean); close each card by the builder's one call (the guide's Derived/Test/ToyasCard.lean, 'card_holds'). Laid BY PROGRAM, IN A SANDBOX (cutbox-door.mjs). By AI agents, Wed Nov 11 2026. No macro, syntax, notation, axiom, sorry.
-/
import Derived.Test.YtaoajlaocphgdaaDoorRows
import GoSem.ClaimSeven
namespace Go.Proofs.YtaoajlaocphgdaaDoor
namespace Rows

/-- THE TIED CARD OF 'caponierlaw19.WrapMakes'. -/
def wrapMakesCard : Claim7 := { stood := { row := wrapMakesRow, standIns := [], harness := (true, "511e66e86d2e57841086a139bb516f1f3487ab0fd65b7b2d468c62eacb5ad96c"), looks := false }, kinds := [], alts := [], laidByText := true, laidKinds := [.data, .data, .pinned], laidTests := true, laidLooks := .later }
def WrapMakesCardSaid : Prop := Claim7.holds Tryd.pinned (.plain (OpenSpec.ofChange wrapMakesSpec)) wrapMakesCard

/-- THE TIED CARD OF 'caponierlaw19.WrapLeaves'. -/
def wrapLeavesCard : Claim7 := { stood := { row := wrapLeavesRow, standIns := [], harness := (true, "511e66e86d2e57841086a139bb516f1f3487ab0fd65b7b2d468c62eacb5ad96c"), looks := false }, kinds := [], alts := [], laidByText := true, laidKinds := [.data, .data, .pinned], laidTests := true, laidLooks := .later }
def WrapLeavesCardSaid : Prop := Claim7.holds Tryd.pinned (.plain (OpenSpec.ofChange wrapLeavesSpec)) wrapLeavesCard

/-- THE TIED CARD OF 'caponierlaw19.WrapSizes'. -/
def wrapSizesCard : Claim7 := { stood := { row := wrapSizesRow, standIns := [], harness := (true, "511e66e86d2e57841086a139bb516f1f3487ab0fd65b7b2d468c62eacb5ad96c"), looks := false }, kinds := [], alts := [], laidByText := true, laidKinds := [.data, .data, .pinned], laidTests := true, laidLooks := .later }
def WrapSizesCardSaid : Prop := Claim7.holds Tryd.pinned (.plain (OpenSpec.ofChange wrapSizesSpec)) wrapSizesCard

/-- THE TIED CARD OF 'caponierlaw19.WrapLayouts'. -/
def wrapLayoutsCard : Claim7 := { stood := { row := wrapLayoutsRow, standIns := [], harness := (true, "511e66e86d2e57841086a139bb516f1f3487ab0fd65b7b2d468c62eacb5ad96c"), looks := false }, kinds := [], alts := [], laidByText := true, laidKinds := [.data, .data, .pinned], laidTests := true, laidLooks := .later }
def WrapLayoutsCardSaid : Prop := Claim7.holds Tryd.pinned (.plain (OpenSpec.ofChange wrapLayoutsSpec)) wrapLayoutsCard

/-- THE TIED CARD OF 'caponierlaw19.WrapEnds'. -/
def wrapEndsCard : Claim7 := { stood := { row := wrapEndsRow, standIns := [], harness := (true, "511e66e86d2e57841086a139bb516f1f3487ab0fd65b7b2d468c62eacb5ad96c"), looks := false }, kinds := [], alts := [], laidByText := true, laidKinds := [.data, .data, .pinned], laidTests := true, laidLooks := .later }
def WrapEndsCardSaid : Prop := Claim7.holds Tryd.pinned (.plain (OpenSpec.ofChange wrapEndsSpec)) wrapEndsCard

/-- THE TIED CARD OF 'caponierlaw19.WrapOrder'. -/
def wrapOrderCard : Claim7 := { stood := { row := wrapOrderRow, standIns := [], harness := (true, "511e66e86d2e57841086a139bb516f1f3487ab0fd65b7b2d468c62eacb5ad96c"), looks := false }, kinds := [], alts := [], laidByText := true, laidKinds := [.data, .data, .pinned], laidTests := true, laidLooks := .later }
def WrapOrderCardSaid : Prop := Claim7.holds Tryd.pinned (.plain (OpenSpec.ofChange wrapOrderSpec)) wrapOrderCard

/-- THE SECOND FORM's CARD OF 'caponierlaw19.WrapMakes'. -/
def wrapMakesUptoCard : Claim7 := { stood := { row := wrapMakesUptoRow, standIns := [], harness := (true, "511e66e86d2e57841086a139bb516f1f3487ab0fd65b7b2d468c62eacb5ad96c"), looks := false }, kinds := [], alts := [], laidByText := true, laidKinds := [.data, .data, .pinned], laidTests := true, laidLooks := .later }
def WrapMakesUptoCardSaid : Prop := Claim7.holds Tryd.pinned (.plain (OpenSpec.upto wrapMakesSpec)) wrapMakesUptoCard

/-- THE SECOND FORM's CARD OF 'caponierlaw19.WrapLeaves'. -/
def wrapLeavesUptoCard : Claim7 := { stood := { row := wrapLeavesUptoRow, standIns := [], harness := (true, "511e66e86d2e57841086a139bb516f1f3487ab0fd65b7b2d468c62eacb5ad96c"), looks := false }, kinds := [], alts := [], laidByText := true, laidKinds := [.data, .data, .pinned], laidTests := true, laidLooks := .later }
def WrapLeavesUptoCardSaid : Prop := Claim7.holds Tryd.pinned (.plain (OpenSpec.upto wrapLeavesSpec)) wrapLeavesUptoCard

/-- THE SECOND FORM's CARD OF 'caponierlaw19.WrapSizes'. -/
def wrapSizesUptoCard : Claim7 := { stood := { row := wrapSizesUptoRow, standIns := [], harness := (true, "511e66e86d2e57841086a139bb516f1f3487ab0fd65b7b2d468c62eacb5ad96c"), looks := false }, kinds := [], alts := [], laidByText := true, laidKinds := [.data, .data, .pinned], laidTests := true, laidLooks := .later }
def WrapSizesUptoCardSaid : Prop := Claim7.holds Tryd.pinned (.plain (OpenSpec.upto wrapSizesSpec)) wrapSizesUptoCard

/-- THE SECOND FORM's CARD OF 'caponierlaw19.WrapLayouts'. -/
def wrapLayoutsUptoCard : Claim7 := { stood := { row := wrapLayoutsUptoRow, standIns := [], harness := (true, "511e66e86d2e57841086a139bb516f1f3487ab0fd65b7b2d468c62eacb5ad96c"), looks := false }, kinds := [], alts := [], laidByText := true, laidKinds := [.data, .data, .pinned], laidTests := true, laidLooks := .later }
def WrapLayoutsUptoCardSaid : Prop := Claim7.holds Tryd.pinned (.plain (OpenSpec.upto wrapLayoutsSpec)) wrapLayoutsUptoCard

/-- THE SECOND FORM's CARD OF 'caponierlaw19.WrapEnds'. -/
def wrapEndsUptoCard : Claim7 := { stood := { row := wrapEndsUptoRow, standIns := [], harness := (true, "511e66e86d2e57841086a139bb516f1f3487ab0fd65b7b2d468c62eacb5ad96c"), looks := false }, kinds := [], alts := [], laidByText := true, laidKinds := [.data, .data, .pinned], laidTests := true, laidLooks := .later }
def WrapEndsUptoCardSaid : Prop := Claim7.holds Tryd.pinned (.plain (OpenSpec.upto wrapEndsSpec)) wrapEndsUptoCard

/-- THE SECOND FORM's CARD OF 'caponierlaw19.WrapOrder'. -/
def wrapOrderUptoCard : Claim7 := { stood := { row := wrapOrderUptoRow, standIns := [], harness := (true, "511e66e86d2e57841086a139bb516f1f3487ab0fd65b7b2d468c62eacb5ad96c"), looks := false }, kinds := [], alts := [], laidByText := true, laidKinds := [.data, .data, .pinned], laidTests := true, laidLooks := .later }
def WrapOrderUptoCardSaid : Prop := Claim7.holds Tryd.pinned (.plain (OpenSpec.upto wrapOrderSpec)) wrapOrderUptoCard
end Rows
end Go.Proofs.YtaoajlaocphgdaaDoor
