/-
  DERIVED. GIVEN WITH THE SEED: THE CARDS: each row of YtipikchkbmgloaaDoorRows.lean that lists a variable, with what it lists TIED to the program's text (the seventh form; the later family's looks); each row that meets fmt, with fmt's text TOLD by the authors' own Lean function (tested against real Go, not proved from fmt's source: count such statements apart). THE CARD IS WHAT COUNTS. Prove the row's statement (the work); the ties are given (YtipikchkbmgloaaDoorTie.lean); close each card by the builder's one call (the guide's Derived/Test/ToyasCard.lean, 'card_holds'). Laid BY PROGRAM, IN A SANDBOX (cutbox-door.mjs). By AI agents, Wed Nov 11 2026. No macro, syntax, notation, axiom, sorry.
-/
import Derived.Test.YtipikchkbmgloaaDoorRows
import GoSem.ClaimSeven
namespace Go.Proofs.YtipikchkbmgloaaDoor
namespace Rows

/-- THE TIED CARD OF 'embrasurelaw08.NetchanBytes'. -/
def netchanBytesCard : Claim7 := { stood := { row := netchanBytesRow, standIns := [], harness := (true, "586dca9b487c5522633048d0a547127b02e1a51189e2ad36294bf85db53318d9"), looks := false }, kinds := [], alts := [], laidByText := true, laidKinds := [.data], laidTests := true, laidLooks := .later }
def NetchanBytesCardSaid : Prop := Claim7.holds Tryd.pinned (.plain (OpenSpec.ofChange netchanBytesSpec)) netchanBytesCard

/-- THE TIED CARD OF 'embrasurelaw08.NetchanBack'. -/
def netchanBackCard : Claim7 := { stood := { row := netchanBackRow, standIns := [], harness := (true, "586dca9b487c5522633048d0a547127b02e1a51189e2ad36294bf85db53318d9"), looks := false }, kinds := [], alts := [], laidByText := true, laidKinds := [.data], laidTests := true, laidLooks := .later }
def NetchanBackCardSaid : Prop := Claim7.holds Tryd.pinned (.plain (OpenSpec.ofChange netchanBackSpec)) netchanBackCard

/-- THE TIED CARD OF 'embrasurelaw08.NetchanOnce'. -/
def netchanOnceCard : Claim7 := { stood := { row := netchanOnceRow, standIns := [], harness := (true, "586dca9b487c5522633048d0a547127b02e1a51189e2ad36294bf85db53318d9"), looks := false }, kinds := [], alts := [], laidByText := true, laidKinds := [.data], laidTests := true, laidLooks := .later }
def NetchanOnceCardSaid : Prop := Claim7.holds Tryd.pinned (.plain (OpenSpec.ofChange netchanOnceSpec)) netchanOnceCard

/-- THE TIED CARD OF 'embrasurelaw08.NetchanComes'. -/
def netchanComesCard : Claim7 := { stood := { row := netchanComesRow, standIns := [], harness := (true, "586dca9b487c5522633048d0a547127b02e1a51189e2ad36294bf85db53318d9"), looks := false }, kinds := [], alts := [], laidByText := true, laidKinds := [.data], laidTests := true, laidLooks := .later }
def NetchanComesCardSaid : Prop := Claim7.holds Tryd.pinned (.plain (OpenSpec.ofChange netchanComesSpec)) netchanComesCard

/-- THE TIED CARD OF 'embrasurelaw08.NetchanWaits'. -/
def netchanWaitsCard : Claim7 := { stood := { row := netchanWaitsRow, standIns := [], harness := (true, "586dca9b487c5522633048d0a547127b02e1a51189e2ad36294bf85db53318d9"), looks := false }, kinds := [], alts := [], laidByText := true, laidKinds := [.data], laidTests := true, laidLooks := .later }
def NetchanWaitsCardSaid : Prop := Claim7.holds Tryd.pinned (.plain (OpenSpec.ofChange netchanWaitsSpec)) netchanWaitsCard

/-- THE SECOND FORM's CARD OF 'embrasurelaw08.NetchanBytes'. -/
def netchanBytesUptoCard : Claim7 := { stood := { row := netchanBytesUptoRow, standIns := [], harness := (true, "586dca9b487c5522633048d0a547127b02e1a51189e2ad36294bf85db53318d9"), looks := false }, kinds := [], alts := [], laidByText := true, laidKinds := [.data], laidTests := true, laidLooks := .later }
def NetchanBytesUptoCardSaid : Prop := Claim7.holds Tryd.pinned (.plain (OpenSpec.upto netchanBytesSpec)) netchanBytesUptoCard

/-- THE SECOND FORM's CARD OF 'embrasurelaw08.NetchanBack'. -/
def netchanBackUptoCard : Claim7 := { stood := { row := netchanBackUptoRow, standIns := [], harness := (true, "586dca9b487c5522633048d0a547127b02e1a51189e2ad36294bf85db53318d9"), looks := false }, kinds := [], alts := [], laidByText := true, laidKinds := [.data], laidTests := true, laidLooks := .later }
def NetchanBackUptoCardSaid : Prop := Claim7.holds Tryd.pinned (.plain (OpenSpec.upto netchanBackSpec)) netchanBackUptoCard

/-- THE SECOND FORM's CARD OF 'embrasurelaw08.NetchanOnce'. -/
def netchanOnceUptoCard : Claim7 := { stood := { row := netchanOnceUptoRow, standIns := [], harness := (true, "586dca9b487c5522633048d0a547127b02e1a51189e2ad36294bf85db53318d9"), looks := false }, kinds := [], alts := [], laidByText := true, laidKinds := [.data], laidTests := true, laidLooks := .later }
def NetchanOnceUptoCardSaid : Prop := Claim7.holds Tryd.pinned (.plain (OpenSpec.upto netchanOnceSpec)) netchanOnceUptoCard

/-- THE SECOND FORM's CARD OF 'embrasurelaw08.NetchanComes'. -/
def netchanComesUptoCard : Claim7 := { stood := { row := netchanComesUptoRow, standIns := [], harness := (true, "586dca9b487c5522633048d0a547127b02e1a51189e2ad36294bf85db53318d9"), looks := false }, kinds := [], alts := [], laidByText := true, laidKinds := [.data], laidTests := true, laidLooks := .later }
def NetchanComesUptoCardSaid : Prop := Claim7.holds Tryd.pinned (.plain (OpenSpec.upto netchanComesSpec)) netchanComesUptoCard

/-- THE SECOND FORM's CARD OF 'embrasurelaw08.NetchanWaits'. -/
def netchanWaitsUptoCard : Claim7 := { stood := { row := netchanWaitsUptoRow, standIns := [], harness := (true, "586dca9b487c5522633048d0a547127b02e1a51189e2ad36294bf85db53318d9"), looks := false }, kinds := [], alts := [], laidByText := true, laidKinds := [.data], laidTests := true, laidLooks := .later }
def NetchanWaitsUptoCardSaid : Prop := Claim7.holds Tryd.pinned (.plain (OpenSpec.upto netchanWaitsSpec)) netchanWaitsUptoCard
end Rows
end Go.Proofs.YtipikchkbmgloaaDoor
