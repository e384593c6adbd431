/-
  DERIVED. GIVEN WITH THE SEED: THE CARDS: each row of YtoebbafmopdfbaaGreatDoorRows.lean that lists a variable, with what it lists TIED to the program's text (the seventh form; the later family's looks); each row that meets fmt, with fmt's text TOLD by the authors' own Lean function (tested against real Go, not proved from fmt's source: count such statements apart). THE CARD IS WHAT COUNTS. Prove the row's statement (the work); the ties are given (YtoebbafmopdfbaaGreatDoorTie.lean); close each card by the builder's one call (the guide's Derived/Test/ToyasCard.lean, 'card_holds'). Laid BY PROGRAM, IN A SANDBOX (cutbox-door.mjs). By AI agents, Wed Nov 11 2026. No macro, syntax, notation, axiom, sorry.
-/
import Derived.Test.YtoebbafmopdfbaaGreatDoorRows
import GoSem.ClaimSeven
namespace Go.Proofs.YtoebbafmopdfbaaGreatDoor
namespace Rows

/-- THE TIED CARD OF 'ravelinlaw16.SnapRanges'. -/
def snapRangesCard : Claim7 := { stood := { row := snapRangesRow, standIns := [], harness := (true, "ec0cc9e44642b7e1ad5b03d42a67a178756026aceaf2b4203c9876cd9d1f2855"), looks := true }, kinds := [], alts := [], goes := true, laidByText := true, laidKinds := [.data, .data, .data], laidTests := true, laidLooks := .later }
def SnapRangesCardSaid : Prop := Claim7.holds Tryz.pinned (.plain (OpenSpec.ofChange snapRangesSpec)) snapRangesCard

/-- THE TIED CARD OF 'ravelinlaw15.EngineTail'. -/
def engineTailCard : Claim7 := { stood := { row := engineTailRow, standIns := [], harness := (true, "ec0cc9e44642b7e1ad5b03d42a67a178756026aceaf2b4203c9876cd9d1f2855"), looks := true }, kinds := [], alts := [], goes := true, laidByText := true, laidKinds := [.data, .data, .data], laidTests := true, laidLooks := .later }
def EngineTailCardSaid : Prop := Claim7.holds Tryz.pinned (.plain (OpenSpec.ofChange engineTailSpec)) engineTailCard

/-- THE TIED CARD OF 'ravelinlaw17.DealLimits'. -/
def dealLimitsCard : Claim7 := { stood := { row := dealLimitsRow, standIns := [], harness := (true, "ec0cc9e44642b7e1ad5b03d42a67a178756026aceaf2b4203c9876cd9d1f2855"), looks := true }, kinds := [], alts := [], goes := true, laidByText := true, laidKinds := [.data, .data, .data], laidTests := true, laidLooks := .later }
def DealLimitsCardSaid : Prop := Claim7.holds Tryz.pinned (.plain (OpenSpec.ofChange dealLimitsSpec)) dealLimitsCard

/-- THE TIED CARD OF 'ravelinlaw17.DealSerial'. -/
def dealSerialCard : Claim7 := { stood := { row := dealSerialRow, standIns := [], harness := (true, "ec0cc9e44642b7e1ad5b03d42a67a178756026aceaf2b4203c9876cd9d1f2855"), looks := true }, kinds := [], alts := [], goes := true, laidByText := true, laidKinds := [.data, .data, .data], laidTests := true, laidLooks := .later }
def DealSerialCardSaid : Prop := Claim7.holds Tryz.pinned (.plain (OpenSpec.ofChange dealSerialSpec)) dealSerialCard

/-- THE TIED CARD OF 'ravelinlaw17.DealPhantoms'. -/
def dealPhantomsCard : Claim7 := { stood := { row := dealPhantomsRow, standIns := [], harness := (true, "ec0cc9e44642b7e1ad5b03d42a67a178756026aceaf2b4203c9876cd9d1f2855"), looks := true }, kinds := [], alts := [], goes := true, laidByText := true, laidKinds := [.data, .data, .data], laidTests := true, laidLooks := .later }
def DealPhantomsCardSaid : Prop := Claim7.holds Tryz.pinned (.plain (OpenSpec.ofChange dealPhantomsSpec)) dealPhantomsCard

/-- THE TIED CARD OF 'ravelinlaw17.DealOwn'. -/
def dealOwnCard : Claim7 := { stood := { row := dealOwnRow, standIns := [], harness := (true, "ec0cc9e44642b7e1ad5b03d42a67a178756026aceaf2b4203c9876cd9d1f2855"), looks := true }, kinds := [], alts := [], goes := true, laidByText := true, laidKinds := [.data, .data, .data], laidTests := true, laidLooks := .later }
def DealOwnCardSaid : Prop := Claim7.holds Tryz.pinned (.plain (OpenSpec.ofChange dealOwnSpec)) dealOwnCard

/-- THE TIED CARD OF 'ravelinlaw15.EngineFull'. -/
def engineFullCard : Claim7 := { stood := { row := engineFullRow, standIns := [], harness := (true, "ec0cc9e44642b7e1ad5b03d42a67a178756026aceaf2b4203c9876cd9d1f2855"), looks := true }, kinds := [], alts := [], goes := true, laidByText := true, laidKinds := [.data, .data, .data], laidTests := true, laidLooks := .later }
def EngineFullCardSaid : Prop := Claim7.holds Tryz.pinned (.plain (OpenSpec.ofChange engineFullSpec)) engineFullCard

/-- THE TIED CARD OF 'ravelinlaw15.EngineMany'. -/
def engineManyCard : Claim7 := { stood := { row := engineManyRow, standIns := [], harness := (true, "ec0cc9e44642b7e1ad5b03d42a67a178756026aceaf2b4203c9876cd9d1f2855"), looks := true }, kinds := [], alts := [], goes := true, laidByText := true, laidKinds := [.data, .data, .data], laidTests := true, laidLooks := .later }
def EngineManyCardSaid : Prop := Claim7.holds Tryz.pinned (.plain (OpenSpec.ofChange engineManySpec)) engineManyCard

/-- THE TIED CARD OF 'ravelinlaw15.EngineAgain'. -/
def engineAgainCard : Claim7 := { stood := { row := engineAgainRow, standIns := [], harness := (true, "ec0cc9e44642b7e1ad5b03d42a67a178756026aceaf2b4203c9876cd9d1f2855"), looks := true }, kinds := [], alts := [], goes := true, laidByText := true, laidKinds := [.data, .data, .data], laidTests := true, laidLooks := .later }
def EngineAgainCardSaid : Prop := Claim7.holds Tryz.pinned (.plain (OpenSpec.ofChange engineAgainSpec)) engineAgainCard

/-- THE TIED CARD OF 'ravelinlaw15.EngineNothing'. -/
def engineNothingCard : Claim7 := { stood := { row := engineNothingRow, standIns := [], harness := (true, "ec0cc9e44642b7e1ad5b03d42a67a178756026aceaf2b4203c9876cd9d1f2855"), looks := true }, kinds := [], alts := [], goes := true, laidByText := true, laidKinds := [.data, .data, .data], laidTests := true, laidLooks := .later }
def EngineNothingCardSaid : Prop := Claim7.holds Tryz.pinned (.plain (OpenSpec.ofChange engineNothingSpec)) engineNothingCard

/-- THE TIED CARD OF 'ravelinlaw15.EnginePlays'. -/
def enginePlaysCard : Claim7 := { stood := { row := enginePlaysRow, standIns := [], harness := (true, "ec0cc9e44642b7e1ad5b03d42a67a178756026aceaf2b4203c9876cd9d1f2855"), looks := true }, kinds := [], alts := [], goes := true, laidByText := true, laidKinds := [.data, .data, .data], laidTests := true, laidLooks := .later }
def EnginePlaysCardSaid : Prop := Claim7.holds Tryz.pinned (.plain (OpenSpec.ofChange enginePlaysSpec)) enginePlaysCard

/-- THE TIED CARD OF 'ravelinlaw15.EngineHolds'. -/
def engineHoldsCard : Claim7 := { stood := { row := engineHoldsRow, standIns := [], harness := (true, "ec0cc9e44642b7e1ad5b03d42a67a178756026aceaf2b4203c9876cd9d1f2855"), looks := true }, kinds := [], alts := [], goes := true, laidByText := true, laidKinds := [.data, .data, .data], laidTests := true, laidLooks := .later }
def EngineHoldsCardSaid : Prop := Claim7.holds Tryz.pinned (.plain (OpenSpec.ofChange engineHoldsSpec)) engineHoldsCard

/-- THE SECOND FORM's CARD OF 'ravelinlaw16.SnapRanges'. -/
def snapRangesUptoCard : Claim7 := { stood := { row := snapRangesUptoRow, standIns := [], harness := (true, "ec0cc9e44642b7e1ad5b03d42a67a178756026aceaf2b4203c9876cd9d1f2855"), looks := true }, kinds := [], alts := [], goes := true, laidByText := true, laidKinds := [.data, .data, .data], laidTests := true, laidLooks := .later }
def SnapRangesUptoCardSaid : Prop := Claim7.holds Tryz.pinned (.plain (OpenSpec.upto snapRangesSpec)) snapRangesUptoCard

/-- THE SECOND FORM's CARD OF 'ravelinlaw15.EngineTail'. -/
def engineTailUptoCard : Claim7 := { stood := { row := engineTailUptoRow, standIns := [], harness := (true, "ec0cc9e44642b7e1ad5b03d42a67a178756026aceaf2b4203c9876cd9d1f2855"), looks := true }, kinds := [], alts := [], goes := true, laidByText := true, laidKinds := [.data, .data, .data], laidTests := true, laidLooks := .later }
def EngineTailUptoCardSaid : Prop := Claim7.holds Tryz.pinned (.plain (OpenSpec.upto engineTailSpec)) engineTailUptoCard

/-- THE SECOND FORM's CARD OF 'ravelinlaw17.DealLimits'. -/
def dealLimitsUptoCard : Claim7 := { stood := { row := dealLimitsUptoRow, standIns := [], harness := (true, "ec0cc9e44642b7e1ad5b03d42a67a178756026aceaf2b4203c9876cd9d1f2855"), looks := true }, kinds := [], alts := [], goes := true, laidByText := true, laidKinds := [.data, .data, .data], laidTests := true, laidLooks := .later }
def DealLimitsUptoCardSaid : Prop := Claim7.holds Tryz.pinned (.plain (OpenSpec.upto dealLimitsSpec)) dealLimitsUptoCard

/-- THE SECOND FORM's CARD OF 'ravelinlaw17.DealSerial'. -/
def dealSerialUptoCard : Claim7 := { stood := { row := dealSerialUptoRow, standIns := [], harness := (true, "ec0cc9e44642b7e1ad5b03d42a67a178756026aceaf2b4203c9876cd9d1f2855"), looks := true }, kinds := [], alts := [], goes := true, laidByText := true, laidKinds := [.data, .data, .data], laidTests := true, laidLooks := .later }
def DealSerialUptoCardSaid : Prop := Claim7.holds Tryz.pinned (.plain (OpenSpec.upto dealSerialSpec)) dealSerialUptoCard

/-- THE SECOND FORM's CARD OF 'ravelinlaw17.DealPhantoms'. -/
def dealPhantomsUptoCard : Claim7 := { stood := { row := dealPhantomsUptoRow, standIns := [], harness := (true, "ec0cc9e44642b7e1ad5b03d42a67a178756026aceaf2b4203c9876cd9d1f2855"), looks := true }, kinds := [], alts := [], goes := true, laidByText := true, laidKinds := [.data, .data, .data], laidTests := true, laidLooks := .later }
def DealPhantomsUptoCardSaid : Prop := Claim7.holds Tryz.pinned (.plain (OpenSpec.upto dealPhantomsSpec)) dealPhantomsUptoCard

/-- THE SECOND FORM's CARD OF 'ravelinlaw17.DealOwn'. -/
def dealOwnUptoCard : Claim7 := { stood := { row := dealOwnUptoRow, standIns := [], harness := (true, "ec0cc9e44642b7e1ad5b03d42a67a178756026aceaf2b4203c9876cd9d1f2855"), looks := true }, kinds := [], alts := [], goes := true, laidByText := true, laidKinds := [.data, .data, .data], laidTests := true, laidLooks := .later }
def DealOwnUptoCardSaid : Prop := Claim7.holds Tryz.pinned (.plain (OpenSpec.upto dealOwnSpec)) dealOwnUptoCard

/-- THE SECOND FORM's CARD OF 'ravelinlaw15.EngineFull'. -/
def engineFullUptoCard : Claim7 := { stood := { row := engineFullUptoRow, standIns := [], harness := (true, "ec0cc9e44642b7e1ad5b03d42a67a178756026aceaf2b4203c9876cd9d1f2855"), looks := true }, kinds := [], alts := [], goes := true, laidByText := true, laidKinds := [.data, .data, .data], laidTests := true, laidLooks := .later }
def EngineFullUptoCardSaid : Prop := Claim7.holds Tryz.pinned (.plain (OpenSpec.upto engineFullSpec)) engineFullUptoCard

/-- THE SECOND FORM's CARD OF 'ravelinlaw15.EngineMany'. -/
def engineManyUptoCard : Claim7 := { stood := { row := engineManyUptoRow, standIns := [], harness := (true, "ec0cc9e44642b7e1ad5b03d42a67a178756026aceaf2b4203c9876cd9d1f2855"), looks := true }, kinds := [], alts := [], goes := true, laidByText := true, laidKinds := [.data, .data, .data], laidTests := true, laidLooks := .later }
def EngineManyUptoCardSaid : Prop := Claim7.holds Tryz.pinned (.plain (OpenSpec.upto engineManySpec)) engineManyUptoCard

/-- THE SECOND FORM's CARD OF 'ravelinlaw15.EngineAgain'. -/
def engineAgainUptoCard : Claim7 := { stood := { row := engineAgainUptoRow, standIns := [], harness := (true, "ec0cc9e44642b7e1ad5b03d42a67a178756026aceaf2b4203c9876cd9d1f2855"), looks := true }, kinds := [], alts := [], goes := true, laidByText := true, laidKinds := [.data, .data, .data], laidTests := true, laidLooks := .later }
def EngineAgainUptoCardSaid : Prop := Claim7.holds Tryz.pinned (.plain (OpenSpec.upto engineAgainSpec)) engineAgainUptoCard

/-- THE SECOND FORM's CARD OF 'ravelinlaw15.EngineNothing'. -/
def engineNothingUptoCard : Claim7 := { stood := { row := engineNothingUptoRow, standIns := [], harness := (true, "ec0cc9e44642b7e1ad5b03d42a67a178756026aceaf2b4203c9876cd9d1f2855"), looks := true }, kinds := [], alts := [], goes := true, laidByText := true, laidKinds := [.data, .data, .data], laidTests := true, laidLooks := .later }
def EngineNothingUptoCardSaid : Prop := Claim7.holds Tryz.pinned (.plain (OpenSpec.upto engineNothingSpec)) engineNothingUptoCard

/-- THE SECOND FORM's CARD OF 'ravelinlaw15.EnginePlays'. -/
def enginePlaysUptoCard : Claim7 := { stood := { row := enginePlaysUptoRow, standIns := [], harness := (true, "ec0cc9e44642b7e1ad5b03d42a67a178756026aceaf2b4203c9876cd9d1f2855"), looks := true }, kinds := [], alts := [], goes := true, laidByText := true, laidKinds := [.data, .data, .data], laidTests := true, laidLooks := .later }
def EnginePlaysUptoCardSaid : Prop := Claim7.holds Tryz.pinned (.plain (OpenSpec.upto enginePlaysSpec)) enginePlaysUptoCard

/-- THE SECOND FORM's CARD OF 'ravelinlaw15.EngineHolds'. -/
def engineHoldsUptoCard : Claim7 := { stood := { row := engineHoldsUptoRow, standIns := [], harness := (true, "ec0cc9e44642b7e1ad5b03d42a67a178756026aceaf2b4203c9876cd9d1f2855"), looks := true }, kinds := [], alts := [], goes := true, laidByText := true, laidKinds := [.data, .data, .data], laidTests := true, laidLooks := .later }
def EngineHoldsUptoCardSaid : Prop := Claim7.holds Tryz.pinned (.plain (OpenSpec.upto engineHoldsSpec)) engineHoldsUptoCard
end Rows
end Go.Proofs.YtoebbafmopdfbaaGreatDoor
