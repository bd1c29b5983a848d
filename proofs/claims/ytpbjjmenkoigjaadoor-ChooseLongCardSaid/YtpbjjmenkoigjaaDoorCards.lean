/-
  DERIVED. GIVEN WITH THE SEED: THE CARDS: each row of YtpbjjmenkoigjaaDoorRows.lean that lists a variable, with what it lists TIED to the program's text (the seventh form; the later family's looks); each row that meets fmt, with fmt's text TOLD by the authors' own Lean function (tested against real Go, not proved from fmt's source: count such statements apart). THE CARD IS WHAT COUNTS. Prove the row's statement (the work); the ties are given (YtpbjjmenkoigjaaDoorTie.lean); close each card by the builder's one call (the guide's Derived/Test/ToyasCard.lean, 'card_holds'). Laid BY PROGRAM, IN A SANDBOX (cutbox-door.mjs). By AI agents, Wed Nov 11 2026. No macro, syntax, notation, axiom, sorry.
-/
import Derived.Test.YtpbjjmenkoigjaaDoorRows
import GoSem.ClaimSeven
namespace Go.Proofs.YtpbjjmenkoigjaaDoor
namespace Rows

/-- THE TIED CARD OF 'comptorlaw18.ChooseChains'. -/
def chooseChainsCard : Claim7 := { stood := { row := chooseChainsRow, standIns := [], harness := (true, "91fc2f8fd9d5b906b7424cb51c136dfd2fb96440144b4bb0b9368a42e7a13d5b"), looks := false }, kinds := [], alts := [], laidByText := true, laidKinds := [.data], laidTests := true, laidLooks := .later }
def ChooseChainsCardSaid : Prop := Claim7.holds Tryd.pinned (.plain (OpenSpec.ofChange chooseChainsSpec)) chooseChainsCard

/-- THE TIED CARD OF 'comptorlaw18.ChooseKeeps'. -/
def chooseKeepsCard : Claim7 := { stood := { row := chooseKeepsRow, standIns := [], harness := (true, "91fc2f8fd9d5b906b7424cb51c136dfd2fb96440144b4bb0b9368a42e7a13d5b"), looks := false }, kinds := [], alts := [], laidByText := true, laidKinds := [.data], laidTests := true, laidLooks := .later }
def ChooseKeepsCardSaid : Prop := Claim7.holds Tryd.pinned (.plain (OpenSpec.ofChange chooseKeepsSpec)) chooseKeepsCard

/-- THE TIED CARD OF 'comptorlaw18.ChooseTurns'. -/
def chooseTurnsCard : Claim7 := { stood := { row := chooseTurnsRow, standIns := [], harness := (true, "91fc2f8fd9d5b906b7424cb51c136dfd2fb96440144b4bb0b9368a42e7a13d5b"), looks := false }, kinds := [], alts := [], laidByText := true, laidKinds := [.data], laidTests := true, laidLooks := .later }
def ChooseTurnsCardSaid : Prop := Claim7.holds Tryd.pinned (.plain (OpenSpec.ofChange chooseTurnsSpec)) chooseTurnsCard

/-- THE TIED CARD OF 'comptorlaw18.ChooseWaits'. -/
def chooseWaitsCard : Claim7 := { stood := { row := chooseWaitsRow, standIns := [], harness := (true, "91fc2f8fd9d5b906b7424cb51c136dfd2fb96440144b4bb0b9368a42e7a13d5b"), looks := false }, kinds := [], alts := [], laidByText := true, laidKinds := [.data], laidTests := true, laidLooks := .later }
def ChooseWaitsCardSaid : Prop := Claim7.holds Tryd.pinned (.plain (OpenSpec.ofChange chooseWaitsSpec)) chooseWaitsCard

/-- THE TIED CARD OF 'comptorlaw18.ChooseLong'. -/
def chooseLongCard : Claim7 := { stood := { row := chooseLongRow, standIns := [], harness := (true, "91fc2f8fd9d5b906b7424cb51c136dfd2fb96440144b4bb0b9368a42e7a13d5b"), looks := false }, kinds := [], alts := [], laidByText := true, laidKinds := [.data], laidTests := true, laidLooks := .later }
def ChooseLongCardSaid : Prop := Claim7.holds Tryd.pinned (.plain (OpenSpec.ofChange chooseLongSpec)) chooseLongCard

/-- THE SECOND FORM's CARD OF 'comptorlaw18.ChooseChains'. -/
def chooseChainsUptoCard : Claim7 := { stood := { row := chooseChainsUptoRow, standIns := [], harness := (true, "91fc2f8fd9d5b906b7424cb51c136dfd2fb96440144b4bb0b9368a42e7a13d5b"), looks := false }, kinds := [], alts := [], laidByText := true, laidKinds := [.data], laidTests := true, laidLooks := .later }
def ChooseChainsUptoCardSaid : Prop := Claim7.holds Tryd.pinned (.plain (OpenSpec.upto chooseChainsSpec)) chooseChainsUptoCard

/-- THE SECOND FORM's CARD OF 'comptorlaw18.ChooseKeeps'. -/
def chooseKeepsUptoCard : Claim7 := { stood := { row := chooseKeepsUptoRow, standIns := [], harness := (true, "91fc2f8fd9d5b906b7424cb51c136dfd2fb96440144b4bb0b9368a42e7a13d5b"), looks := false }, kinds := [], alts := [], laidByText := true, laidKinds := [.data], laidTests := true, laidLooks := .later }
def ChooseKeepsUptoCardSaid : Prop := Claim7.holds Tryd.pinned (.plain (OpenSpec.upto chooseKeepsSpec)) chooseKeepsUptoCard

/-- THE SECOND FORM's CARD OF 'comptorlaw18.ChooseTurns'. -/
def chooseTurnsUptoCard : Claim7 := { stood := { row := chooseTurnsUptoRow, standIns := [], harness := (true, "91fc2f8fd9d5b906b7424cb51c136dfd2fb96440144b4bb0b9368a42e7a13d5b"), looks := false }, kinds := [], alts := [], laidByText := true, laidKinds := [.data], laidTests := true, laidLooks := .later }
def ChooseTurnsUptoCardSaid : Prop := Claim7.holds Tryd.pinned (.plain (OpenSpec.upto chooseTurnsSpec)) chooseTurnsUptoCard

/-- THE SECOND FORM's CARD OF 'comptorlaw18.ChooseWaits'. -/
def chooseWaitsUptoCard : Claim7 := { stood := { row := chooseWaitsUptoRow, standIns := [], harness := (true, "91fc2f8fd9d5b906b7424cb51c136dfd2fb96440144b4bb0b9368a42e7a13d5b"), looks := false }, kinds := [], alts := [], laidByText := true, laidKinds := [.data], laidTests := true, laidLooks := .later }
def ChooseWaitsUptoCardSaid : Prop := Claim7.holds Tryd.pinned (.plain (OpenSpec.upto chooseWaitsSpec)) chooseWaitsUptoCard

/-- THE SECOND FORM's CARD OF 'comptorlaw18.ChooseLong'. -/
def chooseLongUptoCard : Claim7 := { stood := { row := chooseLongUptoRow, standIns := [], harness := (true, "91fc2f8fd9d5b906b7424cb51c136dfd2fb96440144b4bb0b9368a42e7a13d5b"), looks := false }, kinds := [], alts := [], laidByText := true, laidKinds := [.data], laidTests := true, laidLooks := .later }
def ChooseLongUptoCardSaid : Prop := Claim7.holds Tryd.pinned (.plain (OpenSpec.upto chooseLongSpec)) chooseLongUptoCard
end Rows
end Go.Proofs.YtpbjjmenkoigjaaDoor
