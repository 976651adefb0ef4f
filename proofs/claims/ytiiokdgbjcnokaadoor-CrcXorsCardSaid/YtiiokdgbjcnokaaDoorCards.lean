/-
  DERIVED. GIVEN WITH THE SEED: THE CARDS: each row of YtiiokdgbjcnokaaDoorRows.lean that lists a variable, with what it lists TIED to the program's text (the seventh form; the later family's looks); each row that meets fmt, with fmt's text TOLD by the authors' own Lean function (tested against real Go, not proved from fmt's source: count such statements apart). THE CARD IS WHAT COUNTS. Prove the row's statement (the work); the ties are given (YtiiokdgbjcnokaaDoorTie.lean); close each card by the builder's one call (the guide's Derived/Test/ToyasCard.lean, 'card_holds'). Laid BY PROGRAM, IN A SANDBOX (cutbox-door.mjs). By AI agents, Wed Nov 11 2026. No macro, syntax, notation, axiom, sorry.
-/
import Derived.Test.YtiiokdgbjcnokaaDoorRows
import GoSem.ClaimSeven
namespace Go.Proofs.YtiiokdgbjcnokaaDoor
namespace Rows

/-- THE TIED CARD OF 'lighterlaw02.CrcSums'. -/
def crcSumsCard : Claim7 := { stood := { row := crcSumsRow, standIns := [], harness := (true, "d9e2158d8b5f5ea049d12cdfc01bc80872eb395bf5aed67b0156e303bef3a953"), looks := false }, kinds := [], alts := [], laidByText := true, laidKinds := [.data], laidTests := true, laidLooks := .later }
def CrcSumsCardSaid : Prop := Claim7.holds Tryd.pinned (.plain (OpenSpec.ofChange crcSumsSpec)) crcSumsCard

/-- THE TIED CARD OF 'lighterlaw02.CrcZeros'. -/
def crcZerosCard : Claim7 := { stood := { row := crcZerosRow, standIns := [], harness := (true, "d9e2158d8b5f5ea049d12cdfc01bc80872eb395bf5aed67b0156e303bef3a953"), looks := false }, kinds := [], alts := [], laidByText := true, laidKinds := [.data], laidTests := true, laidLooks := .later }
def CrcZerosCardSaid : Prop := Claim7.holds Tryd.pinned (.plain (OpenSpec.ofChange crcZerosSpec)) crcZerosCard

/-- THE TIED CARD OF 'lighterlaw02.CrcOpens'. -/
def crcOpensCard : Claim7 := { stood := { row := crcOpensRow, standIns := [], harness := (true, "d9e2158d8b5f5ea049d12cdfc01bc80872eb395bf5aed67b0156e303bef3a953"), looks := false }, kinds := [], alts := [], laidByText := true, laidKinds := [.data], laidTests := true, laidLooks := .later }
def CrcOpensCardSaid : Prop := Claim7.holds Tryd.pinned (.plain (OpenSpec.ofChange crcOpensSpec)) crcOpensCard

/-- THE TIED CARD OF 'lighterlaw02.CrcParts'. -/
def crcPartsCard : Claim7 := { stood := { row := crcPartsRow, standIns := [], harness := (true, "d9e2158d8b5f5ea049d12cdfc01bc80872eb395bf5aed67b0156e303bef3a953"), looks := false }, kinds := [], alts := [], laidByText := true, laidKinds := [.data], laidTests := true, laidLooks := .later }
def CrcPartsCardSaid : Prop := Claim7.holds Tryd.pinned (.plain (OpenSpec.ofChange crcPartsSpec)) crcPartsCard

/-- THE TIED CARD OF 'lighterlaw02.CrcTold'. -/
def crcToldCard : Claim7 := { stood := { row := crcToldRow, standIns := [], harness := (true, "d9e2158d8b5f5ea049d12cdfc01bc80872eb395bf5aed67b0156e303bef3a953"), looks := false }, kinds := [], alts := [], laidByText := true, laidKinds := [.data], laidTests := true, laidLooks := .later }
def CrcToldCardSaid : Prop := Claim7.holds Tryd.pinned (.plain (OpenSpec.ofChange crcToldSpec)) crcToldCard

/-- THE TIED CARD OF 'lighterlaw02.CrcKeys'. -/
def crcKeysCard : Claim7 := { stood := { row := crcKeysRow, standIns := [], harness := (true, "d9e2158d8b5f5ea049d12cdfc01bc80872eb395bf5aed67b0156e303bef3a953"), looks := false }, kinds := [], alts := [], laidByText := true, laidKinds := [.data], laidTests := true, laidLooks := .later }
def CrcKeysCardSaid : Prop := Claim7.holds Tryd.pinned (.plain (OpenSpec.ofChange crcKeysSpec)) crcKeysCard

/-- THE TIED CARD OF 'lighterlaw02.CrcXors'. -/
def crcXorsCard : Claim7 := { stood := { row := crcXorsRow, standIns := [], harness := (true, "d9e2158d8b5f5ea049d12cdfc01bc80872eb395bf5aed67b0156e303bef3a953"), looks := false }, kinds := [], alts := [], laidByText := true, laidKinds := [.data], laidTests := true, laidLooks := .later }
def CrcXorsCardSaid : Prop := Claim7.holds Tryd.pinned (.plain (OpenSpec.ofChange crcXorsSpec)) crcXorsCard

/-- THE TIED CARD OF 'lighterlaw02.CrcSealed'. -/
def crcSealedCard : Claim7 := { stood := { row := crcSealedRow, standIns := [], harness := (true, "d9e2158d8b5f5ea049d12cdfc01bc80872eb395bf5aed67b0156e303bef3a953"), looks := false }, kinds := [], alts := [], laidByText := true, laidKinds := [.data], laidTests := true, laidLooks := .later }
def CrcSealedCardSaid : Prop := Claim7.holds Tryd.pinned (.plain (OpenSpec.ofChange crcSealedSpec)) crcSealedCard

/-- THE SECOND FORM's CARD OF 'lighterlaw02.CrcSums'. -/
def crcSumsUptoCard : Claim7 := { stood := { row := crcSumsUptoRow, standIns := [], harness := (true, "d9e2158d8b5f5ea049d12cdfc01bc80872eb395bf5aed67b0156e303bef3a953"), looks := false }, kinds := [], alts := [], laidByText := true, laidKinds := [.data], laidTests := true, laidLooks := .later }
def CrcSumsUptoCardSaid : Prop := Claim7.holds Tryd.pinned (.plain (OpenSpec.upto crcSumsSpec)) crcSumsUptoCard

/-- THE SECOND FORM's CARD OF 'lighterlaw02.CrcZeros'. -/
def crcZerosUptoCard : Claim7 := { stood := { row := crcZerosUptoRow, standIns := [], harness := (true, "d9e2158d8b5f5ea049d12cdfc01bc80872eb395bf5aed67b0156e303bef3a953"), looks := false }, kinds := [], alts := [], laidByText := true, laidKinds := [.data], laidTests := true, laidLooks := .later }
def CrcZerosUptoCardSaid : Prop := Claim7.holds Tryd.pinned (.plain (OpenSpec.upto crcZerosSpec)) crcZerosUptoCard

/-- THE SECOND FORM's CARD OF 'lighterlaw02.CrcOpens'. -/
def crcOpensUptoCard : Claim7 := { stood := { row := crcOpensUptoRow, standIns := [], harness := (true, "d9e2158d8b5f5ea049d12cdfc01bc80872eb395bf5aed67b0156e303bef3a953"), looks := false }, kinds := [], alts := [], laidByText := true, laidKinds := [.data], laidTests := true, laidLooks := .later }
def CrcOpensUptoCardSaid : Prop := Claim7.holds Tryd.pinned (.plain (OpenSpec.upto crcOpensSpec)) crcOpensUptoCard

/-- THE SECOND FORM's CARD OF 'lighterlaw02.CrcParts'. -/
def crcPartsUptoCard : Claim7 := { stood := { row := crcPartsUptoRow, standIns := [], harness := (true, "d9e2158d8b5f5ea049d12cdfc01bc80872eb395bf5aed67b0156e303bef3a953"), looks := false }, kinds := [], alts := [], laidByText := true, laidKinds := [.data], laidTests := true, laidLooks := .later }
def CrcPartsUptoCardSaid : Prop := Claim7.holds Tryd.pinned (.plain (OpenSpec.upto crcPartsSpec)) crcPartsUptoCard

/-- THE SECOND FORM's CARD OF 'lighterlaw02.CrcTold'. -/
def crcToldUptoCard : Claim7 := { stood := { row := crcToldUptoRow, standIns := [], harness := (true, "d9e2158d8b5f5ea049d12cdfc01bc80872eb395bf5aed67b0156e303bef3a953"), looks := false }, kinds := [], alts := [], laidByText := true, laidKinds := [.data], laidTests := true, laidLooks := .later }
def CrcToldUptoCardSaid : Prop := Claim7.holds Tryd.pinned (.plain (OpenSpec.upto crcToldSpec)) crcToldUptoCard

/-- THE SECOND FORM's CARD OF 'lighterlaw02.CrcKeys'. -/
def crcKeysUptoCard : Claim7 := { stood := { row := crcKeysUptoRow, standIns := [], harness := (true, "d9e2158d8b5f5ea049d12cdfc01bc80872eb395bf5aed67b0156e303bef3a953"), looks := false }, kinds := [], alts := [], laidByText := true, laidKinds := [.data], laidTests := true, laidLooks := .later }
def CrcKeysUptoCardSaid : Prop := Claim7.holds Tryd.pinned (.plain (OpenSpec.upto crcKeysSpec)) crcKeysUptoCard

/-- THE SECOND FORM's CARD OF 'lighterlaw02.CrcXors'. -/
def crcXorsUptoCard : Claim7 := { stood := { row := crcXorsUptoRow, standIns := [], harness := (true, "d9e2158d8b5f5ea049d12cdfc01bc80872eb395bf5aed67b0156e303bef3a953"), looks := false }, kinds := [], alts := [], laidByText := true, laidKinds := [.data], laidTests := true, laidLooks := .later }
def CrcXorsUptoCardSaid : Prop := Claim7.holds Tryd.pinned (.plain (OpenSpec.upto crcXorsSpec)) crcXorsUptoCard

/-- THE SECOND FORM's CARD OF 'lighterlaw02.CrcSealed'. -/
def crcSealedUptoCard : Claim7 := { stood := { row := crcSealedUptoRow, standIns := [], harness := (true, "d9e2158d8b5f5ea049d12cdfc01bc80872eb395bf5aed67b0156e303bef3a953"), looks := false }, kinds := [], alts := [], laidByText := true, laidKinds := [.data], laidTests := true, laidLooks := .later }
def CrcSealedUptoCardSaid : Prop := Claim7.holds Tryd.pinned (.plain (OpenSpec.upto crcSealedSpec)) crcSealedUptoCard
end Rows
end Go.Proofs.YtiiokdgbjcnokaaDoor
