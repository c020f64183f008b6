/-
  DERIVED. GIVEN WITH THE SEED: THE CARDS: each row of YtjgfjfdodekkpaaGreatDoorRows.lean that lists a variable, with what it lists TIED to the program's text (the seventh form; the later family's looks); each row that meets fmt, with fmt's text TOLD by the authors' own Lean function (tested against real Go, not proved from fmt's source: count such statements apart). THE CARD IS WHAT COUNTS. Prove the row's statement (the work); the ties are given (YtjgfjfdodekkpaaGreatDoorTie.lean); close each card by the builder's one call (the guide's Derived/Test/ToyasCard.lean, 'card_holds'). Laid BY PROGRAM, IN A SANDBOX (cutbox-door.mjs). By AI agents, Wed Nov 11 2026. No macro, syntax, notation, axiom, sorry.
-/
import Derived.Test.YtjgfjfdodekkpaaGreatDoorRows
import GoSem.ClaimSeven
namespace Go.Proofs.YtjgfjfdodekkpaaGreatDoor
namespace Rows

/-- THE TIED CARD OF 'usufructlaw14.TypesWell'. -/
def typesWellCard : Claim7 := { stood := { row := typesWellRow, standIns := [], harness := (true, "36c00e06d54e78c38f3f68d8e9271769af4bc3df69102e6380c7af2bf9050a88"), looks := true }, kinds := [], alts := [], laidByText := true, laidKinds := [.handle], laidTests := true, laidLooks := .later }
def TypesWellCardSaid : Prop := Claim7.holds Tryz.pinned (.plain (OpenSpec.ofChange typesWellSpec)) typesWellCard

/-- THE TIED CARD OF 'usufructlaw14.TypesLift'. -/
def typesLiftCard : Claim7 := { stood := { row := typesLiftRow, standIns := [], harness := (true, "36c00e06d54e78c38f3f68d8e9271769af4bc3df69102e6380c7af2bf9050a88"), looks := true }, kinds := [], alts := [], laidByText := true, laidKinds := [.handle], laidTests := true, laidLooks := .later }
def TypesLiftCardSaid : Prop := Claim7.holds Tryz.pinned (.plain (OpenSpec.ofChange typesLiftSpec)) typesLiftCard

/-- THE TIED CARD OF 'usufructlaw14.TypesAsk'. -/
def typesAskCard : Claim7 := { stood := { row := typesAskRow, standIns := [], harness := (true, "36c00e06d54e78c38f3f68d8e9271769af4bc3df69102e6380c7af2bf9050a88"), looks := true }, kinds := [], alts := [], laidByText := true, laidKinds := [.handle], laidTests := true, laidLooks := .later }
def TypesAskCardSaid : Prop := Claim7.holds Tryz.pinned (.plain (OpenSpec.ofChange typesAskSpec)) typesAskCard

/-- THE TIED CARD OF 'usufructlaw14.TypesSub'. -/
def typesSubCard : Claim7 := { stood := { row := typesSubRow, standIns := [], harness := (true, "36c00e06d54e78c38f3f68d8e9271769af4bc3df69102e6380c7af2bf9050a88"), looks := true }, kinds := [], alts := [], laidByText := true, laidKinds := [.handle], laidTests := true, laidLooks := .later }
def TypesSubCardSaid : Prop := Claim7.holds Tryz.pinned (.plain (OpenSpec.ofChange typesSubSpec)) typesSubCard

/-- THE TIED CARD OF 'usufructlaw14.TypesOrder'. -/
def typesOrderCard : Claim7 := { stood := { row := typesOrderRow, standIns := [], harness := (true, "36c00e06d54e78c38f3f68d8e9271769af4bc3df69102e6380c7af2bf9050a88"), looks := true }, kinds := [], alts := [], laidByText := true, laidKinds := [.handle], laidTests := true, laidLooks := .later }
def TypesOrderCardSaid : Prop := Claim7.holds Tryz.pinned (.plain (OpenSpec.ofChange typesOrderSpec)) typesOrderCard

/-- THE TIED CARD OF 'usufructlaw14.TypesPath'. -/
def typesPathCard : Claim7 := { stood := { row := typesPathRow, standIns := [], harness := (true, "36c00e06d54e78c38f3f68d8e9271769af4bc3df69102e6380c7af2bf9050a88"), looks := true }, kinds := [], alts := [], laidByText := true, laidKinds := [.handle], laidTests := true, laidLooks := .later }
def TypesPathCardSaid : Prop := Claim7.holds Tryz.pinned (.plain (OpenSpec.ofChange typesPathSpec)) typesPathCard

/-- THE TIED CARD OF 'usufructlaw14.TypesNumbers'. -/
def typesNumbersCard : Claim7 := { stood := { row := typesNumbersRow, standIns := [], harness := (true, "36c00e06d54e78c38f3f68d8e9271769af4bc3df69102e6380c7af2bf9050a88"), looks := true }, kinds := [], alts := [], laidByText := true, laidKinds := [.handle], laidTests := true, laidLooks := .later }
def TypesNumbersCardSaid : Prop := Claim7.holds Tryz.pinned (.plain (OpenSpec.ofChange typesNumbersSpec)) typesNumbersCard

/-- THE SECOND FORM's CARD OF 'usufructlaw14.TypesWell'. -/
def typesWellUptoCard : Claim7 := { stood := { row := typesWellUptoRow, standIns := [], harness := (true, "36c00e06d54e78c38f3f68d8e9271769af4bc3df69102e6380c7af2bf9050a88"), looks := true }, kinds := [], alts := [], laidByText := true, laidKinds := [.handle], laidTests := true, laidLooks := .later }
def TypesWellUptoCardSaid : Prop := Claim7.holds Tryz.pinned (.plain (OpenSpec.upto typesWellSpec)) typesWellUptoCard

/-- THE SECOND FORM's CARD OF 'usufructlaw14.TypesLift'. -/
def typesLiftUptoCard : Claim7 := { stood := { row := typesLiftUptoRow, standIns := [], harness := (true, "36c00e06d54e78c38f3f68d8e9271769af4bc3df69102e6380c7af2bf9050a88"), looks := true }, kinds := [], alts := [], laidByText := true, laidKinds := [.handle], laidTests := true, laidLooks := .later }
def TypesLiftUptoCardSaid : Prop := Claim7.holds Tryz.pinned (.plain (OpenSpec.upto typesLiftSpec)) typesLiftUptoCard

/-- THE SECOND FORM's CARD OF 'usufructlaw14.TypesAsk'. -/
def typesAskUptoCard : Claim7 := { stood := { row := typesAskUptoRow, standIns := [], harness := (true, "36c00e06d54e78c38f3f68d8e9271769af4bc3df69102e6380c7af2bf9050a88"), looks := true }, kinds := [], alts := [], laidByText := true, laidKinds := [.handle], laidTests := true, laidLooks := .later }
def TypesAskUptoCardSaid : Prop := Claim7.holds Tryz.pinned (.plain (OpenSpec.upto typesAskSpec)) typesAskUptoCard

/-- THE SECOND FORM's CARD OF 'usufructlaw14.TypesSub'. -/
def typesSubUptoCard : Claim7 := { stood := { row := typesSubUptoRow, standIns := [], harness := (true, "36c00e06d54e78c38f3f68d8e9271769af4bc3df69102e6380c7af2bf9050a88"), looks := true }, kinds := [], alts := [], laidByText := true, laidKinds := [.handle], laidTests := true, laidLooks := .later }
def TypesSubUptoCardSaid : Prop := Claim7.holds Tryz.pinned (.plain (OpenSpec.upto typesSubSpec)) typesSubUptoCard

/-- THE SECOND FORM's CARD OF 'usufructlaw14.TypesOrder'. -/
def typesOrderUptoCard : Claim7 := { stood := { row := typesOrderUptoRow, standIns := [], harness := (true, "36c00e06d54e78c38f3f68d8e9271769af4bc3df69102e6380c7af2bf9050a88"), looks := true }, kinds := [], alts := [], laidByText := true, laidKinds := [.handle], laidTests := true, laidLooks := .later }
def TypesOrderUptoCardSaid : Prop := Claim7.holds Tryz.pinned (.plain (OpenSpec.upto typesOrderSpec)) typesOrderUptoCard

/-- THE SECOND FORM's CARD OF 'usufructlaw14.TypesPath'. -/
def typesPathUptoCard : Claim7 := { stood := { row := typesPathUptoRow, standIns := [], harness := (true, "36c00e06d54e78c38f3f68d8e9271769af4bc3df69102e6380c7af2bf9050a88"), looks := true }, kinds := [], alts := [], laidByText := true, laidKinds := [.handle], laidTests := true, laidLooks := .later }
def TypesPathUptoCardSaid : Prop := Claim7.holds Tryz.pinned (.plain (OpenSpec.upto typesPathSpec)) typesPathUptoCard

/-- THE SECOND FORM's CARD OF 'usufructlaw14.TypesNumbers'. -/
def typesNumbersUptoCard : Claim7 := { stood := { row := typesNumbersUptoRow, standIns := [], harness := (true, "36c00e06d54e78c38f3f68d8e9271769af4bc3df69102e6380c7af2bf9050a88"), looks := true }, kinds := [], alts := [], laidByText := true, laidKinds := [.handle], laidTests := true, laidLooks := .later }
def TypesNumbersUptoCardSaid : Prop := Claim7.holds Tryz.pinned (.plain (OpenSpec.upto typesNumbersSpec)) typesNumbersUptoCard
end Rows
end Go.Proofs.YtjgfjfdodekkpaaGreatDoor
