/-
  DERIVED. GIVEN WITH THE SEED: THE CARDS: each row of YtehekppkicjimaaDoorRows.lean that lists a variable, with what it lists TIED to the program's text (the seventh form; the later family's looks); each row that meets fmt, with fmt's text TOLD by the authors' own Lean function (tested against real Go, not proved from fmt's source: count such statements apart). THE CARD IS WHAT COUNTS. Prove the row's statement (the work); the ties are given (YtehekppkicjimaaDoorTie.lean); close each card by the builder's one call (the guide's Derived/Test/ToyasCard.lean, 'card_holds'). Laid BY PROGRAM, IN A SANDBOX (cutbox-door.mjs). By AI agents, Wed Nov 11 2026. No macro, syntax, notation, axiom, sorry.
-/
import Derived.Test.YtehekppkicjimaaDoorRows
import GoSem.ClaimSeven
namespace Go.Proofs.YtehekppkicjimaaDoor
namespace Rows

/-- THE TIED CARD OF 'optimalaw3.FiniteKeeps'. -/
def finiteKeepsCard : Claim7 := { stood := { row := finiteKeepsRow, standIns := [], harness := (true, "4f24a8a2212cb2228000e9c68efa5e0cd8a6e1dff11017c9f22397ba99033caf"), looks := true }, kinds := [], alts := [], laidByText := true, laidKinds := [.handle, .sentinel, .sentinel, .sentinel, .sentinel, .sentinel, .sentinel, .sentinel, .sentinel, .sentinel, .sentinel], laidTests := true, laidLooks := .later }
def FiniteKeepsCardSaid : Prop := Claim7.holds Tryd.pinned (.plain (OpenSpec.ofChange finiteKeepsSpec)) finiteKeepsCard

/-- THE TIED CARD OF 'optimalaw3.FiniteSound'. -/
def finiteSoundCard : Claim7 := { stood := { row := finiteSoundRow, standIns := [], harness := (true, "4f24a8a2212cb2228000e9c68efa5e0cd8a6e1dff11017c9f22397ba99033caf"), looks := true }, kinds := [], alts := [], laidByText := true, laidKinds := [.sentinel, .sentinel], laidTests := true, laidLooks := .later }
def FiniteSoundCardSaid : Prop := Claim7.holds Tryd.pinned (.plain (OpenSpec.ofChange finiteSoundSpec)) finiteSoundCard

/-- THE SECOND FORM's CARD OF 'optimalaw3.FiniteKeeps'. -/
def finiteKeepsUptoCard : Claim7 := { stood := { row := finiteKeepsUptoRow, standIns := [], harness := (true, "4f24a8a2212cb2228000e9c68efa5e0cd8a6e1dff11017c9f22397ba99033caf"), looks := true }, kinds := [], alts := [], laidByText := true, laidKinds := [.handle, .sentinel, .sentinel, .sentinel, .sentinel, .sentinel, .sentinel, .sentinel, .sentinel, .sentinel, .sentinel], laidTests := true, laidLooks := .later }
def FiniteKeepsUptoCardSaid : Prop := Claim7.holds Tryd.pinned (.plain (OpenSpec.upto finiteKeepsSpec)) finiteKeepsUptoCard

/-- THE SECOND FORM's CARD OF 'optimalaw3.FiniteSound'. -/
def finiteSoundUptoCard : Claim7 := { stood := { row := finiteSoundUptoRow, standIns := [], harness := (true, "4f24a8a2212cb2228000e9c68efa5e0cd8a6e1dff11017c9f22397ba99033caf"), looks := true }, kinds := [], alts := [], laidByText := true, laidKinds := [.sentinel, .sentinel], laidTests := true, laidLooks := .later }
def FiniteSoundUptoCardSaid : Prop := Claim7.holds Tryd.pinned (.plain (OpenSpec.upto finiteSoundSpec)) finiteSoundUptoCard
end Rows
end Go.Proofs.YtehekppkicjimaaDoor
