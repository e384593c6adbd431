/- A part of the proof; no condition of its own. -/
import Derived.Test.YtoebbafmopdfbaaGreatDoorEnBG
set_option linter.unusedSimpArgs false
set_option linter.unusedVariables false
/- EnBH: The engine's laws: what the laws on snaps ask first. -/
namespace Go.Ab.En
open Go Go.Conc Go.RowKit Go.Ab
set_option maxRecDepth 10000
theorem hI1 : ∀ w e,(loneJ pp).Ok w e:=fun _ _ => trivial
theorem L_left : RC (loneJ pp) 140 S140:=rc140 hI1 (rc47 hI1 rc105)
theorem L_file : RC (loneJ pp) 75 SFile:=rcFile hI1 rcItoa rcRep
theorem L_names : RC (loneJ pp) 179 SNames:=rcNames hI1 rcKeys rcSrt
theorem L_open : RC (loneJ pp) 16 SMade:=rcOpen0 hI1 (rcMade hI1 L_names L_file L_left rc82)
theorem L_new : RC (loneJ pp) 17 S17:=rc17 hI1
theorem L_do : RC (loneJ pp) 18 SDo:=rcDo hI1 rcCs rcSortW rc82 L_file L_left
theorem L_scan : RC (loneJ pp) 42 SScan:=rcScan hI1 rcCs (rcBet0 hI1) (rcHRange hI1 rcCs) (rcVis hI1 rcCs)
theorem L_sget : RC (loneJ pp) 57 SSnGet:=rcSnGet hI1 rcCs
theorem L_sscan : RC (loneJ pp) 58 SSnScan:=rcSnScan hI1 L_scan
theorem L_schg : RC (loneJ pp) 21 SSnChg:=rcSnChg hI1 rcCs
theorem L_smov : RC (loneJ pp) 20 SSnMov:=rcSnMov hI1 L_scan
def SKn : Spec:=fun _ args K => args = []∧∀ H',K H' (.bool true)
end Go.Ab.En
