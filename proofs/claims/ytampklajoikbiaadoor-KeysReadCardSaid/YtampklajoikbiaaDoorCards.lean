/-
  DERIVED. GIVEN WITH THE SEED: THE CARDS: each row of YtampklajoikbiaaDoorRows.lean that lists a variable, with what it lists TIED to the program's text (the seventh form; the later family's looks); each row that meets fmt, with fmt's text TOLD by the authors' own Lean function (tested against real Go, not proved from fmt's source: count such statements apart). THE CARD IS WHAT COUNTS. Prove the row's statement (the work); the ties are given (YtampklajoikbiaaDoorTie.lean); close each card by the builder's one call (the guide's Derived/Test/ToyasCard.lean, 'card_holds'). Laid BY PROGRAM, IN A SANDBOX (cutbox-door.mjs). By AI agents, Wed Nov 11 2026. No macro, syntax, notation, axiom, sorry.
-/
import Derived.Test.YtampklajoikbiaaDoorRows
import GoSem.ClaimSeven
namespace Go.Proofs.YtampklajoikbiaaDoor
namespace Rows

/-- THE TIED CARD OF 'trellislaw.KeysWrite'. -/
def keysWriteCard : Claim7 := { stood := { row := keysWriteRow, standIns := [], harness := (true, "35184fb696fd2685863e5625114baf1e7823142dbf1593d834f4ea37839b3470"), looks := true }, kinds := [], alts := [], laidByText := true, laidKinds := [.data, .data, .data, .data, .sentinel, .sentinel, .pinned], laidTests := true, laidLooks := .later }
def KeysWriteCardSaid : Prop := Claim7.holds Tryd.pinned (.plain (OpenSpec.ofChange keysWriteSpec)) keysWriteCard

/-- THE TIED CARD OF 'trellislaw.KeysRead'. -/
def keysReadCard : Claim7 := { stood := { row := keysReadRow, standIns := [], harness := (true, "35184fb696fd2685863e5625114baf1e7823142dbf1593d834f4ea37839b3470"), looks := true }, kinds := [], alts := [], laidByText := true, laidKinds := [.data, .data, .data, .data, .sentinel, .sentinel, .pinned], laidTests := true, laidLooks := .later }
def KeysReadCardSaid : Prop := Claim7.holds Tryd.pinned (.plain (OpenSpec.ofChange keysReadSpec)) keysReadCard

/-- THE TIED CARD OF 'trellislaw.BindTable'. -/
def bindTableCard : Claim7 := { stood := { row := bindTableRow, standIns := [], harness := (true, "35184fb696fd2685863e5625114baf1e7823142dbf1593d834f4ea37839b3470"), looks := true }, kinds := [], alts := [], laidByText := true, laidKinds := [.data, .data, .data, .data, .sentinel, .sentinel, .listed, .data, .pinned], laidTests := true, laidLooks := .later }
def BindTableCardSaid : Prop := Claim7.holds Tryd.pinned (.plain (OpenSpec.ofChange bindTableSpec)) bindTableCard

/-- THE TIED CARD OF 'trellislaw.KeysName'. -/
def keysNameCard : Claim7 := { stood := { row := keysNameRow, standIns := [], harness := (true, "35184fb696fd2685863e5625114baf1e7823142dbf1593d834f4ea37839b3470"), looks := true }, kinds := [], alts := [], laidByText := true, laidKinds := [.data, .data, .data, .data, .sentinel, .sentinel, .listed, .data, .pinned], laidTests := true, laidLooks := .later }
def KeysNameCardSaid : Prop := Claim7.holds Tryd.pinned (.plain (OpenSpec.ofChange keysNameSpec)) keysNameCard

/-- THE SECOND FORM's CARD OF 'trellislaw.KeysWrite'. -/
def keysWriteUptoCard : Claim7 := { stood := { row := keysWriteUptoRow, standIns := [], harness := (true, "35184fb696fd2685863e5625114baf1e7823142dbf1593d834f4ea37839b3470"), looks := true }, kinds := [], alts := [], laidByText := true, laidKinds := [.data, .data, .data, .data, .sentinel, .sentinel, .pinned], laidTests := true, laidLooks := .later }
def KeysWriteUptoCardSaid : Prop := Claim7.holds Tryd.pinned (.plain (OpenSpec.upto keysWriteSpec)) keysWriteUptoCard

/-- THE SECOND FORM's CARD OF 'trellislaw.KeysRead'. -/
def keysReadUptoCard : Claim7 := { stood := { row := keysReadUptoRow, standIns := [], harness := (true, "35184fb696fd2685863e5625114baf1e7823142dbf1593d834f4ea37839b3470"), looks := true }, kinds := [], alts := [], laidByText := true, laidKinds := [.data, .data, .data, .data, .sentinel, .sentinel, .pinned], laidTests := true, laidLooks := .later }
def KeysReadUptoCardSaid : Prop := Claim7.holds Tryd.pinned (.plain (OpenSpec.upto keysReadSpec)) keysReadUptoCard

/-- THE SECOND FORM's CARD OF 'trellislaw.BindTable'. -/
def bindTableUptoCard : Claim7 := { stood := { row := bindTableUptoRow, standIns := [], harness := (true, "35184fb696fd2685863e5625114baf1e7823142dbf1593d834f4ea37839b3470"), looks := true }, kinds := [], alts := [], laidByText := true, laidKinds := [.data, .data, .data, .data, .sentinel, .sentinel, .listed, .data, .pinned], laidTests := true, laidLooks := .later }
def BindTableUptoCardSaid : Prop := Claim7.holds Tryd.pinned (.plain (OpenSpec.upto bindTableSpec)) bindTableUptoCard

/-- THE SECOND FORM's CARD OF 'trellislaw.KeysName'. -/
def keysNameUptoCard : Claim7 := { stood := { row := keysNameUptoRow, standIns := [], harness := (true, "35184fb696fd2685863e5625114baf1e7823142dbf1593d834f4ea37839b3470"), looks := true }, kinds := [], alts := [], laidByText := true, laidKinds := [.data, .data, .data, .data, .sentinel, .sentinel, .listed, .data, .pinned], laidTests := true, laidLooks := .later }
def KeysNameUptoCardSaid : Prop := Claim7.holds Tryd.pinned (.plain (OpenSpec.upto keysNameSpec)) keysNameUptoCard
end Rows
end Go.Proofs.YtampklajoikbiaaDoor
