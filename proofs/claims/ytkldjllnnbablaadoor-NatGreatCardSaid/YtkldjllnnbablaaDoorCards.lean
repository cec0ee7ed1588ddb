/-
  DERIVED. GIVEN WITH THE SEED: THE CARDS: each row of YtkldjllnnbablaaDoorRows.lean that lists a variable, with what it lists TIED to the program's text (the seventh form; the later family's looks); each row that meets fmt, with fmt's text TOLD by the authors' own Lean function (tested against real Go, not proved from fmt's source: count such statements apart). THE CARD IS WHAT COUNTS. Prove the row's statement (the work); the ties are given (YtkldjllnnbablaaDoorTie.lean); close each card by the builder's one call (the guide's Derived/Test/ToyasCard.lean, 'card_holds'). Laid BY PROGRAM, IN A SANDBOX (cutbox-door.mjs). By AI agents, Wed Nov 11 2026. No macro, syntax, notation, axiom, sorry.
-/
import Derived.Test.YtkldjllnnbablaaDoorRows
import GoSem.ClaimSeven
namespace Go.Proofs.YtkldjllnnbablaaDoor
namespace Rows

/-- THE TIED CARD OF 'ramagelaw01.NatDivides'. -/
def natDividesCard : Claim7 := { stood := { row := natDividesRow, standIns := [], harness := (true, "e654320f9d13298883280174ef45e6d375eea744edda7f389d8c6b23a08ab9c2"), looks := false }, kinds := [], alts := [], laidByText := true, laidKinds := [.data, .pinned], laidTests := true, laidLooks := .later }
def NatDividesCardSaid : Prop := Claim7.holds Tryd.pinned (.plain (OpenSpec.ofChange natDividesSpec)) natDividesCard

/-- THE TIED CARD OF 'ramagelaw01.NatOrders'. -/
def natOrdersCard : Claim7 := { stood := { row := natOrdersRow, standIns := [], harness := (true, "e654320f9d13298883280174ef45e6d375eea744edda7f389d8c6b23a08ab9c2"), looks := false }, kinds := [], alts := [], laidByText := true, laidKinds := [.data, .pinned], laidTests := true, laidLooks := .later }
def NatOrdersCardSaid : Prop := Claim7.holds Tryd.pinned (.plain (OpenSpec.ofChange natOrdersSpec)) natOrdersCard

/-- THE TIED CARD OF 'ramagelaw01.NatSums'. -/
def natSumsCard : Claim7 := { stood := { row := natSumsRow, standIns := [], harness := (true, "e654320f9d13298883280174ef45e6d375eea744edda7f389d8c6b23a08ab9c2"), looks := false }, kinds := [], alts := [], laidByText := true, laidKinds := [.data, .pinned], laidTests := true, laidLooks := .later }
def NatSumsCardSaid : Prop := Claim7.holds Tryd.pinned (.plain (OpenSpec.ofChange natSumsSpec)) natSumsCard

/-- THE TIED CARD OF 'ramagelaw01.NatProducts'. -/
def natProductsCard : Claim7 := { stood := { row := natProductsRow, standIns := [], harness := (true, "e654320f9d13298883280174ef45e6d375eea744edda7f389d8c6b23a08ab9c2"), looks := false }, kinds := [], alts := [], laidByText := true, laidKinds := [.data, .pinned], laidTests := true, laidLooks := .later }
def NatProductsCardSaid : Prop := Claim7.holds Tryd.pinned (.plain (OpenSpec.ofChange natProductsSpec)) natProductsCard

/-- THE TIED CARD OF 'ramagelaw01.NatTexts'. -/
def natTextsCard : Claim7 := { stood := { row := natTextsRow, standIns := [], harness := (true, "e654320f9d13298883280174ef45e6d375eea744edda7f389d8c6b23a08ab9c2"), looks := false }, kinds := [], alts := [], laidByText := true, laidKinds := [.data, .pinned], laidTests := true, laidLooks := .later }
def NatTextsCardSaid : Prop := Claim7.holds Tryd.pinned (.plain (OpenSpec.ofChange natTextsSpec)) natTextsCard

/-- THE TIED CARD OF 'ramagelaw01.NatRules'. -/
def natRulesCard : Claim7 := { stood := { row := natRulesRow, standIns := [], harness := (true, "e654320f9d13298883280174ef45e6d375eea744edda7f389d8c6b23a08ab9c2"), looks := false }, kinds := [], alts := [], laidByText := true, laidKinds := [.data, .pinned], laidTests := true, laidLooks := .later }
def NatRulesCardSaid : Prop := Claim7.holds Tryd.pinned (.plain (OpenSpec.ofChange natRulesSpec)) natRulesCard

/-- THE TIED CARD OF 'ramagelaw01.NatGreat'. -/
def natGreatCard : Claim7 := { stood := { row := natGreatRow, standIns := [], harness := (true, "e654320f9d13298883280174ef45e6d375eea744edda7f389d8c6b23a08ab9c2"), looks := false }, kinds := [], alts := [], laidByText := true, laidKinds := [.data, .pinned], laidTests := true, laidLooks := .later }
def NatGreatCardSaid : Prop := Claim7.holds Tryd.pinned (.plain (OpenSpec.ofChange natGreatSpec)) natGreatCard

/-- THE SECOND FORM's CARD OF 'ramagelaw01.NatDivides'. -/
def natDividesUptoCard : Claim7 := { stood := { row := natDividesUptoRow, standIns := [], harness := (true, "e654320f9d13298883280174ef45e6d375eea744edda7f389d8c6b23a08ab9c2"), looks := false }, kinds := [], alts := [], laidByText := true, laidKinds := [.data, .pinned], laidTests := true, laidLooks := .later }
def NatDividesUptoCardSaid : Prop := Claim7.holds Tryd.pinned (.plain (OpenSpec.upto natDividesSpec)) natDividesUptoCard

/-- THE SECOND FORM's CARD OF 'ramagelaw01.NatOrders'. -/
def natOrdersUptoCard : Claim7 := { stood := { row := natOrdersUptoRow, standIns := [], harness := (true, "e654320f9d13298883280174ef45e6d375eea744edda7f389d8c6b23a08ab9c2"), looks := false }, kinds := [], alts := [], laidByText := true, laidKinds := [.data, .pinned], laidTests := true, laidLooks := .later }
def NatOrdersUptoCardSaid : Prop := Claim7.holds Tryd.pinned (.plain (OpenSpec.upto natOrdersSpec)) natOrdersUptoCard

/-- THE SECOND FORM's CARD OF 'ramagelaw01.NatSums'. -/
def natSumsUptoCard : Claim7 := { stood := { row := natSumsUptoRow, standIns := [], harness := (true, "e654320f9d13298883280174ef45e6d375eea744edda7f389d8c6b23a08ab9c2"), looks := false }, kinds := [], alts := [], laidByText := true, laidKinds := [.data, .pinned], laidTests := true, laidLooks := .later }
def NatSumsUptoCardSaid : Prop := Claim7.holds Tryd.pinned (.plain (OpenSpec.upto natSumsSpec)) natSumsUptoCard

/-- THE SECOND FORM's CARD OF 'ramagelaw01.NatProducts'. -/
def natProductsUptoCard : Claim7 := { stood := { row := natProductsUptoRow, standIns := [], harness := (true, "e654320f9d13298883280174ef45e6d375eea744edda7f389d8c6b23a08ab9c2"), looks := false }, kinds := [], alts := [], laidByText := true, laidKinds := [.data, .pinned], laidTests := true, laidLooks := .later }
def NatProductsUptoCardSaid : Prop := Claim7.holds Tryd.pinned (.plain (OpenSpec.upto natProductsSpec)) natProductsUptoCard

/-- THE SECOND FORM's CARD OF 'ramagelaw01.NatTexts'. -/
def natTextsUptoCard : Claim7 := { stood := { row := natTextsUptoRow, standIns := [], harness := (true, "e654320f9d13298883280174ef45e6d375eea744edda7f389d8c6b23a08ab9c2"), looks := false }, kinds := [], alts := [], laidByText := true, laidKinds := [.data, .pinned], laidTests := true, laidLooks := .later }
def NatTextsUptoCardSaid : Prop := Claim7.holds Tryd.pinned (.plain (OpenSpec.upto natTextsSpec)) natTextsUptoCard

/-- THE SECOND FORM's CARD OF 'ramagelaw01.NatRules'. -/
def natRulesUptoCard : Claim7 := { stood := { row := natRulesUptoRow, standIns := [], harness := (true, "e654320f9d13298883280174ef45e6d375eea744edda7f389d8c6b23a08ab9c2"), looks := false }, kinds := [], alts := [], laidByText := true, laidKinds := [.data, .pinned], laidTests := true, laidLooks := .later }
def NatRulesUptoCardSaid : Prop := Claim7.holds Tryd.pinned (.plain (OpenSpec.upto natRulesSpec)) natRulesUptoCard

/-- THE SECOND FORM's CARD OF 'ramagelaw01.NatGreat'. -/
def natGreatUptoCard : Claim7 := { stood := { row := natGreatUptoRow, standIns := [], harness := (true, "e654320f9d13298883280174ef45e6d375eea744edda7f389d8c6b23a08ab9c2"), looks := false }, kinds := [], alts := [], laidByText := true, laidKinds := [.data, .pinned], laidTests := true, laidLooks := .later }
def NatGreatUptoCardSaid : Prop := Claim7.holds Tryd.pinned (.plain (OpenSpec.upto natGreatSpec)) natGreatUptoCard
end Rows
end Go.Proofs.YtkldjllnnbablaaDoor
