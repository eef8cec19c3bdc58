/-
  DERIVED. GIVEN WITH THE SEED: THE CARDS: each row of YtajndnaeknfogaaDoorRows.lean that lists a variable, with what it lists TIED to the program's text (the seventh form; the later family's looks); each row that meets fmt, with fmt's text TOLD by the authors' own Lean function (tested against real Go, not proved from fmt's source: count such statements apart). THE CARD IS WHAT COUNTS. Prove the row's statement (the work); the ties are given (YtajndnaeknfogaaDoorTie.lean); close each card by the builder's one call (the guide's Derived/Test/ToyasCard.lean, 'card_holds'). Laid BY PROGRAM, IN A SANDBOX (cutbox-door.mjs). By AI agents, Wed Nov 11 2026. No macro, syntax, notation, axiom, sorry.
-/
import Derived.Test.YtajndnaeknfogaaDoorRows
import GoSem.ClaimSeven
namespace Go.Proofs.YtajndnaeknfogaaDoor
namespace Rows

/-- THE TIED CARD OF 'tidewaterlaw24.RulesDecide'. -/
def rulesDecideCard : Claim7 := { stood := { row := rulesDecideRow, standIns := [], harness := (true, "6199bc9808f5ff16014c9d06b07bfc79cf3614b5527cd32956e4abf9e1184ca1"), looks := false }, kinds := [], alts := [], laidByText := true, laidKinds := [.data, .pinned], laidTests := true, laidLooks := .later }
def RulesDecideCardSaid : Prop := Claim7.holds Tryd.pinned (.plain (OpenSpec.ofChange rulesDecideSpec)) rulesDecideCard

/-- THE TIED CARD OF 'tidewaterlaw24.RulesAhead'. -/
def rulesAheadCard : Claim7 := { stood := { row := rulesAheadRow, standIns := [], harness := (true, "6199bc9808f5ff16014c9d06b07bfc79cf3614b5527cd32956e4abf9e1184ca1"), looks := false }, kinds := [], alts := [], laidByText := true, laidKinds := [.data, .pinned], laidTests := true, laidLooks := .later }
def RulesAheadCardSaid : Prop := Claim7.holds Tryd.pinned (.plain (OpenSpec.ofChange rulesAheadSpec)) rulesAheadCard

/-- THE TIED CARD OF 'tidewaterlaw24.RulesApart'. -/
def rulesApartCard : Claim7 := { stood := { row := rulesApartRow, standIns := [], harness := (true, "6199bc9808f5ff16014c9d06b07bfc79cf3614b5527cd32956e4abf9e1184ca1"), looks := false }, kinds := [], alts := [], laidByText := true, laidKinds := [.data, .pinned], laidTests := true, laidLooks := .later }
def RulesApartCardSaid : Prop := Claim7.holds Tryd.pinned (.plain (OpenSpec.ofChange rulesApartSpec)) rulesApartCard

/-- THE TIED CARD OF 'tidewaterlaw24.RulesIdle'. -/
def rulesIdleCard : Claim7 := { stood := { row := rulesIdleRow, standIns := [], harness := (true, "6199bc9808f5ff16014c9d06b07bfc79cf3614b5527cd32956e4abf9e1184ca1"), looks := false }, kinds := [], alts := [], laidByText := true, laidKinds := [.data, .pinned], laidTests := true, laidLooks := .later }
def RulesIdleCardSaid : Prop := Claim7.holds Tryd.pinned (.plain (OpenSpec.ofChange rulesIdleSpec)) rulesIdleCard

/-- THE TIED CARD OF 'tidewaterlaw24.RulesTexts'. -/
def rulesTextsCard : Claim7 := { stood := { row := rulesTextsRow, standIns := [], harness := (true, "6199bc9808f5ff16014c9d06b07bfc79cf3614b5527cd32956e4abf9e1184ca1"), looks := false }, kinds := [], alts := [], laidByText := true, laidKinds := [.data, .pinned], laidTests := true, laidLooks := .later }
def RulesTextsCardSaid : Prop := Claim7.holds Tryd.pinned (.plain (OpenSpec.ofChange rulesTextsSpec)) rulesTextsCard

/-- THE SECOND FORM's CARD OF 'tidewaterlaw24.RulesDecide'. -/
def rulesDecideUptoCard : Claim7 := { stood := { row := rulesDecideUptoRow, standIns := [], harness := (true, "6199bc9808f5ff16014c9d06b07bfc79cf3614b5527cd32956e4abf9e1184ca1"), looks := false }, kinds := [], alts := [], laidByText := true, laidKinds := [.data, .pinned], laidTests := true, laidLooks := .later }
def RulesDecideUptoCardSaid : Prop := Claim7.holds Tryd.pinned (.plain (OpenSpec.upto rulesDecideSpec)) rulesDecideUptoCard

/-- THE SECOND FORM's CARD OF 'tidewaterlaw24.RulesAhead'. -/
def rulesAheadUptoCard : Claim7 := { stood := { row := rulesAheadUptoRow, standIns := [], harness := (true, "6199bc9808f5ff16014c9d06b07bfc79cf3614b5527cd32956e4abf9e1184ca1"), looks := false }, kinds := [], alts := [], laidByText := true, laidKinds := [.data, .pinned], laidTests := true, laidLooks := .later }
def RulesAheadUptoCardSaid : Prop := Claim7.holds Tryd.pinned (.plain (OpenSpec.upto rulesAheadSpec)) rulesAheadUptoCard

/-- THE SECOND FORM's CARD OF 'tidewaterlaw24.RulesApart'. -/
def rulesApartUptoCard : Claim7 := { stood := { row := rulesApartUptoRow, standIns := [], harness := (true, "6199bc9808f5ff16014c9d06b07bfc79cf3614b5527cd32956e4abf9e1184ca1"), looks := false }, kinds := [], alts := [], laidByText := true, laidKinds := [.data, .pinned], laidTests := true, laidLooks := .later }
def RulesApartUptoCardSaid : Prop := Claim7.holds Tryd.pinned (.plain (OpenSpec.upto rulesApartSpec)) rulesApartUptoCard

/-- THE SECOND FORM's CARD OF 'tidewaterlaw24.RulesIdle'. -/
def rulesIdleUptoCard : Claim7 := { stood := { row := rulesIdleUptoRow, standIns := [], harness := (true, "6199bc9808f5ff16014c9d06b07bfc79cf3614b5527cd32956e4abf9e1184ca1"), looks := false }, kinds := [], alts := [], laidByText := true, laidKinds := [.data, .pinned], laidTests := true, laidLooks := .later }
def RulesIdleUptoCardSaid : Prop := Claim7.holds Tryd.pinned (.plain (OpenSpec.upto rulesIdleSpec)) rulesIdleUptoCard

/-- THE SECOND FORM's CARD OF 'tidewaterlaw24.RulesTexts'. -/
def rulesTextsUptoCard : Claim7 := { stood := { row := rulesTextsUptoRow, standIns := [], harness := (true, "6199bc9808f5ff16014c9d06b07bfc79cf3614b5527cd32956e4abf9e1184ca1"), looks := false }, kinds := [], alts := [], laidByText := true, laidKinds := [.data, .pinned], laidTests := true, laidLooks := .later }
def RulesTextsUptoCardSaid : Prop := Claim7.holds Tryd.pinned (.plain (OpenSpec.upto rulesTextsSpec)) rulesTextsUptoCard
end Rows
end Go.Proofs.YtajndnaeknfogaaDoor
