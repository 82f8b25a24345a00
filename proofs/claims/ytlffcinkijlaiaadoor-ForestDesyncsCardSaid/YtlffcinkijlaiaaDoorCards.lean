/-
  DERIVED. GIVEN WITH THE SEED: THE CARDS: each row of YtlffcinkijlaiaaDoorRows.lean that lists a variable, with what it lists TIED to the program's text (the seventh form; the later family's looks); each row that meets fmt, with fmt's text TOLD by the authors' own Lean function (tested against real Go, not proved from fmt's source: count such statements apart). THE CARD IS WHAT COUNTS. Prove the row's statement (the work); the ties are given (YtlffcinkijlaiaaDoorTie.lean); close each card by the builder's one call (the guide's Derived/Test/ToyasCard.lean, 'card_holds'). Laid BY PROGRAM, IN A SANDBOX (cutbox-door.mjs). By AI agents, Wed Nov 11 2026. No macro, syntax, notation, axiom, sorry.
-/
import Derived.Test.YtlffcinkijlaiaaDoorRows
import GoSem.ClaimSeven
namespace Go.Proofs.YtlffcinkijlaiaaDoor
namespace Rows

/-- THE TIED CARD OF 'tableaulaw17.ForestDesyncs'. -/
def forestDesyncsCard : Claim7 := { stood := { row := forestDesyncsRow, standIns := [], harness := (true, "f96c5f158524916730a5933a376a2afdf62e836ba49b186e60d265780fdcb775"), looks := true }, kinds := [], alts := [], laidByText := true, laidKinds := [.sentinel, .sentinel, .sentinel, .sentinel, .sentinel], laidTests := true, laidLooks := .later }
def ForestDesyncsCardSaid : Prop := Claim7.holds Tryd.pinned (.plain (OpenSpec.ofChange forestDesyncsSpec)) forestDesyncsCard

/-- THE TIED CARD OF 'tableaulaw17.ForestRoles'. -/
def forestRolesCard : Claim7 := { stood := { row := forestRolesRow, standIns := [], harness := (true, "f96c5f158524916730a5933a376a2afdf62e836ba49b186e60d265780fdcb775"), looks := true }, kinds := [], alts := [], laidByText := true, laidKinds := [.sentinel, .sentinel, .sentinel, .sentinel, .sentinel, .sentinel, .sentinel, .sentinel, .sentinel, .sentinel, .sentinel, .sentinel, .sentinel, .sentinel, .sentinel, .sentinel], laidTests := true, laidLooks := .later }
def ForestRolesCardSaid : Prop := Claim7.holds Tryd.pinned (.plain (OpenSpec.ofChange forestRolesSpec)) forestRolesCard

/-- THE TIED CARD OF 'tableaulaw11.PoolPlays'. -/
def poolPlaysCard : Claim7 := { stood := { row := poolPlaysRow, standIns := [], harness := (true, "f96c5f158524916730a5933a376a2afdf62e836ba49b186e60d265780fdcb775"), looks := true }, kinds := [], alts := [], laidByText := true, laidKinds := [.sentinel, .sentinel, .sentinel, .sentinel, .sentinel, .sentinel, .sentinel, .sentinel, .sentinel, .sentinel, .sentinel, .sentinel, .sentinel, .sentinel, .sentinel, .sentinel], laidTests := true, laidLooks := .later }
def PoolPlaysCardSaid : Prop := Claim7.holds Tryd.pinned (.plain (OpenSpec.ofChange poolPlaysSpec)) poolPlaysCard

/-- THE TIED CARD OF 'tableaulaw17.ForestSyncs'. -/
def forestSyncsCard : Claim7 := { stood := { row := forestSyncsRow, standIns := [], harness := (true, "f96c5f158524916730a5933a376a2afdf62e836ba49b186e60d265780fdcb775"), looks := true }, kinds := [], alts := [], laidByText := true, laidKinds := [.sentinel, .sentinel, .sentinel, .sentinel, .sentinel], laidTests := true, laidLooks := .later }
def ForestSyncsCardSaid : Prop := Claim7.holds Tryd.pinned (.plain (OpenSpec.ofChange forestSyncsSpec)) forestSyncsCard

/-- THE TIED CARD OF 'tableaulaw17.ForestDrops'. -/
def forestDropsCard : Claim7 := { stood := { row := forestDropsRow, standIns := [], harness := (true, "f96c5f158524916730a5933a376a2afdf62e836ba49b186e60d265780fdcb775"), looks := true }, kinds := [], alts := [], laidByText := true, laidKinds := [.sentinel, .sentinel, .sentinel, .sentinel, .sentinel], laidTests := true, laidLooks := .later }
def ForestDropsCardSaid : Prop := Claim7.holds Tryd.pinned (.plain (OpenSpec.ofChange forestDropsSpec)) forestDropsCard

/-- THE TIED CARD OF 'tableaulaw17.ForestPlaces'. -/
def forestPlacesCard : Claim7 := { stood := { row := forestPlacesRow, standIns := [], harness := (true, "f96c5f158524916730a5933a376a2afdf62e836ba49b186e60d265780fdcb775"), looks := true }, kinds := [], alts := [], laidByText := true, laidKinds := [.sentinel, .sentinel, .sentinel, .sentinel, .sentinel], laidTests := true, laidLooks := .later }
def ForestPlacesCardSaid : Prop := Claim7.holds Tryd.pinned (.plain (OpenSpec.ofChange forestPlacesSpec)) forestPlacesCard

/-- THE SECOND FORM's CARD OF 'tableaulaw17.ForestDesyncs'. -/
def forestDesyncsUptoCard : Claim7 := { stood := { row := forestDesyncsUptoRow, standIns := [], harness := (true, "f96c5f158524916730a5933a376a2afdf62e836ba49b186e60d265780fdcb775"), looks := true }, kinds := [], alts := [], laidByText := true, laidKinds := [.sentinel, .sentinel, .sentinel, .sentinel, .sentinel], laidTests := true, laidLooks := .later }
def ForestDesyncsUptoCardSaid : Prop := Claim7.holds Tryd.pinned (.plain (OpenSpec.upto forestDesyncsSpec)) forestDesyncsUptoCard

/-- THE SECOND FORM's CARD OF 'tableaulaw17.ForestRoles'. -/
def forestRolesUptoCard : Claim7 := { stood := { row := forestRolesUptoRow, standIns := [], harness := (true, "f96c5f158524916730a5933a376a2afdf62e836ba49b186e60d265780fdcb775"), looks := true }, kinds := [], alts := [], laidByText := true, laidKinds := [.sentinel, .sentinel, .sentinel, .sentinel, .sentinel, .sentinel, .sentinel, .sentinel, .sentinel, .sentinel, .sentinel, .sentinel, .sentinel, .sentinel, .sentinel, .sentinel], laidTests := true, laidLooks := .later }
def ForestRolesUptoCardSaid : Prop := Claim7.holds Tryd.pinned (.plain (OpenSpec.upto forestRolesSpec)) forestRolesUptoCard

/-- THE SECOND FORM's CARD OF 'tableaulaw11.PoolPlays'. -/
def poolPlaysUptoCard : Claim7 := { stood := { row := poolPlaysUptoRow, standIns := [], harness := (true, "f96c5f158524916730a5933a376a2afdf62e836ba49b186e60d265780fdcb775"), looks := true }, kinds := [], alts := [], laidByText := true, laidKinds := [.sentinel, .sentinel, .sentinel, .sentinel, .sentinel, .sentinel, .sentinel, .sentinel, .sentinel, .sentinel, .sentinel, .sentinel, .sentinel, .sentinel, .sentinel, .sentinel], laidTests := true, laidLooks := .later }
def PoolPlaysUptoCardSaid : Prop := Claim7.holds Tryd.pinned (.plain (OpenSpec.upto poolPlaysSpec)) poolPlaysUptoCard

/-- THE SECOND FORM's CARD OF 'tableaulaw17.ForestSyncs'. -/
def forestSyncsUptoCard : Claim7 := { stood := { row := forestSyncsUptoRow, standIns := [], harness := (true, "f96c5f158524916730a5933a376a2afdf62e836ba49b186e60d265780fdcb775"), looks := true }, kinds := [], alts := [], laidByText := true, laidKinds := [.sentinel, .sentinel, .sentinel, .sentinel, .sentinel], laidTests := true, laidLooks := .later }
def ForestSyncsUptoCardSaid : Prop := Claim7.holds Tryd.pinned (.plain (OpenSpec.upto forestSyncsSpec)) forestSyncsUptoCard

/-- THE SECOND FORM's CARD OF 'tableaulaw17.ForestDrops'. -/
def forestDropsUptoCard : Claim7 := { stood := { row := forestDropsUptoRow, standIns := [], harness := (true, "f96c5f158524916730a5933a376a2afdf62e836ba49b186e60d265780fdcb775"), looks := true }, kinds := [], alts := [], laidByText := true, laidKinds := [.sentinel, .sentinel, .sentinel, .sentinel, .sentinel], laidTests := true, laidLooks := .later }
def ForestDropsUptoCardSaid : Prop := Claim7.holds Tryd.pinned (.plain (OpenSpec.upto forestDropsSpec)) forestDropsUptoCard

/-- THE SECOND FORM's CARD OF 'tableaulaw17.ForestPlaces'. -/
def forestPlacesUptoCard : Claim7 := { stood := { row := forestPlacesUptoRow, standIns := [], harness := (true, "f96c5f158524916730a5933a376a2afdf62e836ba49b186e60d265780fdcb775"), looks := true }, kinds := [], alts := [], laidByText := true, laidKinds := [.sentinel, .sentinel, .sentinel, .sentinel, .sentinel], laidTests := true, laidLooks := .later }
def ForestPlacesUptoCardSaid : Prop := Claim7.holds Tryd.pinned (.plain (OpenSpec.upto forestPlacesSpec)) forestPlacesUptoCard
end Rows
end Go.Proofs.YtlffcinkijlaiaaDoor
