/- The closed facts of the row of ExpandQuotes, one by one. Conditions: none. -/
import Derived.Test.YtdlimikcgdgfpaaGreatDoorTie
import Derived.Test.YtdlimikcgdgfpaaGreatDoorCards
import Derived.Test.YtdlimikcgdgfpaaGreatDoorProg
import Derived.Test.YtdlimikcgdgfpaaGreatDoorChecked
import Derived.WalkKit
import Derived.ProofKit
import Derived.SevenTiedAt
import Derived.Stop.Joined
namespace Go.Proofs.YtdlimikcgdgfpaaGreatDoor.expandQuotes
set_option maxRecDepth 100000
theorem jf0 : (Rows.expandQuotesRow.wf (OpenSpec.ofChange Rows.expandQuotesSpec)) = true := by kernel_rfl
theorem jf1 : (laidOutB Tryz.checked.prog) = true := by kernel_rfl
theorem jf2 : (mapsRowed Tryz.checked.prog) = true := by kernel_rfl
theorem jf3 : (Tryz.f6.params.all (Tryz.checked.prog.readableRec ·)) = true := by kernel_rfl
theorem jf4 : (namedTie Tryz.checked.prog Rows.expandQuotesRow.named Rows.expandQuotesSpec.vars) = true := by kernel_rfl
theorem jf5 : ((Rows.expandQuotesRow.stops == [])) = true := by kernel_rfl
theorem jf6 : ((Tryz.checked.prog.stops == [])) = true := by kernel_rfl
theorem jf7 : ((Rows.expandQuotesRow.knobs == [])) = true := by kernel_rfl
theorem jf8 : ((Tryz.checked.prog.stopKnobs == [])) = true := by kernel_rfl
theorem jf9 : ((Rows.expandQuotesRow.inPlace == Tryz.checked.prog.inPlace 6)) = true := by kernel_rfl
theorem jf10 : ((Rows.expandQuotesRow.unfollowed == Tryz.checked.prog.unfollowed 6)) = true := by kernel_rfl
theorem jf11 : ((Rows.expandQuotesRow.recurses == Tryz.checked.prog.recurses 6)) = true := by kernel_rfl
theorem jf12 : ((Rows.expandQuotesRow.named == Tryz.checked.prog.varsNamed 6)) = true := by kernel_rfl
theorem jf13 : ((Rows.expandQuotesRow.maps == (Tryz.f6.params.toList ++ Rows.expandQuotesSpec.plain.varTypes Tryz.checked.prog).any (Tryz.checked.prog.mapsRec ·))) = true := by kernel_rfl
theorem jf14 : ((Rows.expandQuotesRow.ifaces == (Tryz.f6.params.toList ++ Rows.expandQuotesSpec.plain.varTypes Tryz.checked.prog).any (Tryz.checked.prog.ifacesRec ·))) = true := by kernel_rfl
theorem jf15 : ((Rows.expandQuotesRow.mapsOut == Tryz.checked.prog.mapsAmong Tryz.f6.resultTypes.toList)) = true := by kernel_rfl
theorem jf16 : ((Rows.expandQuotesRow.loops == (Tryz.f6.params.toList ++ Rows.expandQuotesSpec.plain.varTypes Tryz.checked.prog).any (Tryz.checked.prog.loopsFrom ·))) = true := by kernel_rfl
theorem jf17 : ((Rows.expandQuotesRow.wideKeys == (Tryz.f6.params.toList ++ Rows.expandQuotesSpec.plain.varTypes Tryz.checked.prog ++ Tryz.f6.resultTypes.toList).any (Tryz.checked.prog.wideKeysFrom ·))) = true := by kernel_rfl
theorem jf18 : (Rows.expandQuotesSpec.vars.all (Tryz.checked.prog.varReadable ·)) = true := by kernel_rfl
theorem jf19 : (Tryz.f6.resultTypes.all (fun t => Tryz.checked.prog.readableRec t && decide (t < Tryz.checked.prog.types.size))) = true := by kernel_rfl
theorem jf20 : ((Rows.expandQuotesRow.ifacesOut == Tryz.f6.resultTypes.toList.any (Tryz.checked.prog.ifacesRec ·))) = true := by kernel_rfl
theorem jf21 : ((Rows.expandQuotesRow.loopsOut == Tryz.f6.resultTypes.toList.any (Tryz.checked.prog.loopsFrom ·))) = true := by kernel_rfl
theorem jf22 : ((Rows.expandQuotesRow.plainKeys == Tryz.checked.prog.plainKeys)) = true := by kernel_rfl
theorem jf23 : (Rows.expandQuotesRow.shortTexts.isNone) = true := by kernel_rfl
theorem jf24 : (Tryz.checked.prog.stopsHeard) = true := by kernel_rfl
theorem jf25 : (Tryz.checked.prog.mayEnter) = true := by kernel_rfl
theorem jf26 : ((Rows.expandQuotesRow.lifted == Tryz.checked.prog.liftsFinal)) = true := by kernel_rfl
theorem jf27 : ((Tryz.checked.prog.make == some Rows.expandQuotesRow.make)) = true := by kernel_rfl
theorem jf28 : ((Rows.expandQuotesRow.kinds == (if Rows.expandQuotesRow.domain.isEmpty then [] else Tryz.f6.params.toList.map fun t => match Tryz.checked.prog.underlying t with | some (.int k) => some k | _ => none))) = true := by kernel_rfl
theorem jf29 : ((Rows.expandQuotesRow.pinned == Rows.expandQuotesRow.pinnedBy)) = true := by kernel_rfl
theorem jf30 : ((Rows.expandQuotesRow.veiled == (Tryz.f6.params.toList ++ Rows.expandQuotesSpec.plain.varTypes Tryz.checked.prog ++ Tryz.f6.resultTypes.toList).any (Tryz.checked.prog.veiledRec ·))) = true := by kernel_rfl
theorem jf31 : (Rows.expandQuotesRow.veiledFits Tryz.checked.prog Tryz.f6.params.toList (Tryz.f6.params.toList ++ Rows.expandQuotesSpec.plain.varTypes Tryz.checked.prog ++ Tryz.f6.resultTypes.toList)) = true := by kernel_rfl
theorem jfs : joinedFacts Tryz.checked.prog 6 Tryz.f6 Rows.expandQuotesSpec Rows.expandQuotesRow = true := by
  simp only [joinedFacts, Bool.and_eq_true]
  exact ⟨⟨⟨⟨⟨⟨⟨⟨⟨⟨⟨⟨⟨⟨⟨⟨⟨⟨⟨⟨⟨⟨⟨⟨⟨⟨⟨⟨⟨⟨⟨jf0, jf1⟩, jf2⟩, jf3⟩, jf4⟩, jf5⟩, jf6⟩, jf7⟩, jf8⟩, jf9⟩, jf10⟩, jf11⟩, jf12⟩, jf13⟩, jf14⟩, jf15⟩, jf16⟩, jf17⟩, jf18⟩, jf19⟩, jf20⟩, jf21⟩, jf22⟩, jf23⟩, jf24⟩, jf25⟩, jf26⟩, jf27⟩, jf28⟩, jf29⟩, jf30⟩, jf31⟩

end Go.Proofs.YtdlimikcgdgfpaaGreatDoor.expandQuotes
