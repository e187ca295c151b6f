/-
  DERIVED. GIVEN WITH THE SEED: THE CARDS: each row of YtodkmbjhdckjiaaDoorRows.lean that lists a variable, with what it lists TIED to the program's text (the seventh form; the later family's looks); each row that meets fmt, with fmt's text TOLD by the authors' own Lean function (tested against real Go, not proved from fmt's source: count such statements apart). THE CARD IS WHAT COUNTS. Prove the row's statement (the work); the ties are given (YtodkmbjhdckjiaaDoorTie.lean); close each card by the builder's one call (the guide's Derived/Test/ToyasCard.lean, 'card_holds'). Laid BY PROGRAM, IN A SANDBOX (cutbox-door.mjs). By AI agents, Wed Nov 11 2026. No macro, syntax, notation, axiom, sorry.
-/
import Derived.Test.YtodkmbjhdckjiaaDoorRows
import GoSem.ClaimSeven
namespace Go.Proofs.YtodkmbjhdckjiaaDoor
namespace Rows

/-- THE TIED CARD OF 'regulatorlaw16.OutlierMatchesReference'. -/
def outlierMatchesReferenceCard : Claim7 := { stood := { row := outlierMatchesReferenceRow, standIns := [], harness := (true, "fbbace15c2ec6d26a46d35bfd5d03e01c83035486161d1d876789c7311d66902"), looks := false }, kinds := [], alts := [], laidByText := true, laidKinds := [.data], laidTests := true, laidLooks := .later }
def OutlierMatchesReferenceCardSaid : Prop := Claim7.holds Tryd.pinned (.plain (OpenSpec.ofChange outlierMatchesReferenceSpec)) outlierMatchesReferenceCard

/-- THE TIED CARD OF 'regulatorlaw16.OutlierSets'. -/
def outlierSetsCard : Claim7 := { stood := { row := outlierSetsRow, standIns := [], harness := (true, "fbbace15c2ec6d26a46d35bfd5d03e01c83035486161d1d876789c7311d66902"), looks := false }, kinds := [], alts := [], laidByText := true, laidKinds := [.data], laidTests := true, laidLooks := .later }
def OutlierSetsCardSaid : Prop := Claim7.holds Tryd.pinned (.plain (OpenSpec.ofChange outlierSetsSpec)) outlierSetsCard

/-- THE TIED CARD OF 'regulatorlaw16.OutlierAll'. -/
def outlierAllCard : Claim7 := { stood := { row := outlierAllRow, standIns := [], harness := (true, "fbbace15c2ec6d26a46d35bfd5d03e01c83035486161d1d876789c7311d66902"), looks := false }, kinds := [], alts := [], laidByText := true, laidKinds := [.data], laidTests := true, laidLooks := .later }
def OutlierAllCardSaid : Prop := Claim7.holds Tryd.pinned (.plain (OpenSpec.ofChange outlierAllSpec)) outlierAllCard

/-- THE TIED CARD OF 'regulatorlaw16.OutlierSure'. -/
def outlierSureCard : Claim7 := { stood := { row := outlierSureRow, standIns := [], harness := (true, "fbbace15c2ec6d26a46d35bfd5d03e01c83035486161d1d876789c7311d66902"), looks := false }, kinds := [], alts := [], laidByText := true, laidKinds := [.data], laidTests := true, laidLooks := .later }
def OutlierSureCardSaid : Prop := Claim7.holds Tryd.pinned (.plain (OpenSpec.ofChange outlierSureSpec)) outlierSureCard

/-- THE TIED CARD OF 'regulatorlaw16.OutlierTruth'. -/
def outlierTruthCard : Claim7 := { stood := { row := outlierTruthRow, standIns := [], harness := (true, "fbbace15c2ec6d26a46d35bfd5d03e01c83035486161d1d876789c7311d66902"), looks := false }, kinds := [], alts := [], laidByText := true, laidKinds := [.data], laidTests := true, laidLooks := .later }
def OutlierTruthCardSaid : Prop := Claim7.holds Tryd.pinned (.plain (OpenSpec.ofChange outlierTruthSpec)) outlierTruthCard

/-- THE TIED CARD OF 'regulatorlaw16.OutlierLonger'. -/
def outlierLongerCard : Claim7 := { stood := { row := outlierLongerRow, standIns := [], harness := (true, "fbbace15c2ec6d26a46d35bfd5d03e01c83035486161d1d876789c7311d66902"), looks := false }, kinds := [], alts := [], laidByText := true, laidKinds := [.data], laidTests := true, laidLooks := .later }
def OutlierLongerCardSaid : Prop := Claim7.holds Tryd.pinned (.plain (OpenSpec.ofChange outlierLongerSpec)) outlierLongerCard

/-- THE SECOND FORM's CARD OF 'regulatorlaw16.OutlierMatchesReference'. -/
def outlierMatchesReferenceUptoCard : Claim7 := { stood := { row := outlierMatchesReferenceUptoRow, standIns := [], harness := (true, "fbbace15c2ec6d26a46d35bfd5d03e01c83035486161d1d876789c7311d66902"), looks := false }, kinds := [], alts := [], laidByText := true, laidKinds := [.data], laidTests := true, laidLooks := .later }
def OutlierMatchesReferenceUptoCardSaid : Prop := Claim7.holds Tryd.pinned (.plain (OpenSpec.upto outlierMatchesReferenceSpec)) outlierMatchesReferenceUptoCard

/-- THE SECOND FORM's CARD OF 'regulatorlaw16.OutlierSets'. -/
def outlierSetsUptoCard : Claim7 := { stood := { row := outlierSetsUptoRow, standIns := [], harness := (true, "fbbace15c2ec6d26a46d35bfd5d03e01c83035486161d1d876789c7311d66902"), looks := false }, kinds := [], alts := [], laidByText := true, laidKinds := [.data], laidTests := true, laidLooks := .later }
def OutlierSetsUptoCardSaid : Prop := Claim7.holds Tryd.pinned (.plain (OpenSpec.upto outlierSetsSpec)) outlierSetsUptoCard

/-- THE SECOND FORM's CARD OF 'regulatorlaw16.OutlierAll'. -/
def outlierAllUptoCard : Claim7 := { stood := { row := outlierAllUptoRow, standIns := [], harness := (true, "fbbace15c2ec6d26a46d35bfd5d03e01c83035486161d1d876789c7311d66902"), looks := false }, kinds := [], alts := [], laidByText := true, laidKinds := [.data], laidTests := true, laidLooks := .later }
def OutlierAllUptoCardSaid : Prop := Claim7.holds Tryd.pinned (.plain (OpenSpec.upto outlierAllSpec)) outlierAllUptoCard

/-- THE SECOND FORM's CARD OF 'regulatorlaw16.OutlierSure'. -/
def outlierSureUptoCard : Claim7 := { stood := { row := outlierSureUptoRow, standIns := [], harness := (true, "fbbace15c2ec6d26a46d35bfd5d03e01c83035486161d1d876789c7311d66902"), looks := false }, kinds := [], alts := [], laidByText := true, laidKinds := [.data], laidTests := true, laidLooks := .later }
def OutlierSureUptoCardSaid : Prop := Claim7.holds Tryd.pinned (.plain (OpenSpec.upto outlierSureSpec)) outlierSureUptoCard

/-- THE SECOND FORM's CARD OF 'regulatorlaw16.OutlierTruth'. -/
def outlierTruthUptoCard : Claim7 := { stood := { row := outlierTruthUptoRow, standIns := [], harness := (true, "fbbace15c2ec6d26a46d35bfd5d03e01c83035486161d1d876789c7311d66902"), looks := false }, kinds := [], alts := [], laidByText := true, laidKinds := [.data], laidTests := true, laidLooks := .later }
def OutlierTruthUptoCardSaid : Prop := Claim7.holds Tryd.pinned (.plain (OpenSpec.upto outlierTruthSpec)) outlierTruthUptoCard

/-- THE SECOND FORM's CARD OF 'regulatorlaw16.OutlierLonger'. -/
def outlierLongerUptoCard : Claim7 := { stood := { row := outlierLongerUptoRow, standIns := [], harness := (true, "fbbace15c2ec6d26a46d35bfd5d03e01c83035486161d1d876789c7311d66902"), looks := false }, kinds := [], alts := [], laidByText := true, laidKinds := [.data], laidTests := true, laidLooks := .later }
def OutlierLongerUptoCardSaid : Prop := Claim7.holds Tryd.pinned (.plain (OpenSpec.upto outlierLongerSpec)) outlierLongerUptoCard
end Rows
end Go.Proofs.YtodkmbjhdckjiaaDoor
