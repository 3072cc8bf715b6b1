/- Joined by program out of: FactsAScriptWords. -/
import Derived.Test.YtigkblelhghjjaaGreatDoorRows
import GoSem.ClaimGoes
import Derived.JoinedOf
import Derived.KernelRfl
set_option linter.all false
/- Closed facts on the row of ScriptWords. -/
section
set_option linter.unusedVariables false
set_option maxRecDepth 100000
namespace Go.Proofs.YtigkblelhghjjaaGreatDoor.scriptWords
theorem q1 : Rows.scriptWordsRow.wf (OpenSpec.ofChange (OpenSpec.ofChange Rows.scriptWordsSpec).bare) = true := by kernel_rfl
theorem q2 : laidOutB Tryz.prog = true := by kernel_rfl
theorem q3 : mapsRowed Tryz.prog = true := by kernel_rfl
theorem q4 : Tryz.f3.params.all (Tryz.prog.readableRec ·) = true := by kernel_rfl
theorem q5 : namedTie Tryz.prog Rows.scriptWordsRow.named (OpenSpec.ofChange Rows.scriptWordsSpec).bare.vars = true := by kernel_rfl
theorem q6 : (Rows.scriptWordsRow.stops == []) = true := by kernel_rfl
theorem q7 : (Tryz.prog.stops == []) = true := by kernel_rfl
theorem q8 : (Rows.scriptWordsRow.knobs == []) = true := by kernel_rfl
theorem q9 : (Tryz.prog.stopKnobs == []) = true := by kernel_rfl
theorem q14 : (Rows.scriptWordsRow.maps == (Tryz.f3.params.toList ++ (OpenSpec.ofChange Rows.scriptWordsSpec).bare.plain.varTypes Tryz.prog).any (Tryz.prog.mapsRec ·)) = true := by kernel_rfl
theorem q15 : (Rows.scriptWordsRow.ifaces == (Tryz.f3.params.toList ++ (OpenSpec.ofChange Rows.scriptWordsSpec).bare.plain.varTypes Tryz.prog).any (Tryz.prog.ifacesRec ·)) = true := by kernel_rfl
theorem q16 : (Rows.scriptWordsRow.mapsOut == Tryz.prog.mapsAmong Tryz.f3.resultTypes.toList) = true := by kernel_rfl
theorem q17 : (Rows.scriptWordsRow.loops == (Tryz.f3.params.toList ++ (OpenSpec.ofChange Rows.scriptWordsSpec).bare.plain.varTypes Tryz.prog).any (Tryz.prog.loopsFrom ·)) = true := by kernel_rfl
theorem q18 : (Rows.scriptWordsRow.wideKeys == (Tryz.f3.params.toList ++ (OpenSpec.ofChange Rows.scriptWordsSpec).bare.plain.varTypes Tryz.prog ++ Tryz.f3.resultTypes.toList).any (Tryz.prog.wideKeysFrom ·)) = true := by kernel_rfl
theorem q19 : (OpenSpec.ofChange Rows.scriptWordsSpec).bare.vars.all (Tryz.prog.varReadable ·) = true := by kernel_rfl
theorem q20 : Tryz.f3.resultTypes.all (fun t => Tryz.prog.readableRec t && decide (t < Tryz.prog.types.size)) = true := by kernel_rfl
theorem q21 : (Rows.scriptWordsRow.ifacesOut == Tryz.f3.resultTypes.toList.any (Tryz.prog.ifacesRec ·)) = true := by kernel_rfl
theorem q22 : (Rows.scriptWordsRow.loopsOut == Tryz.f3.resultTypes.toList.any (Tryz.prog.loopsFrom ·)) = true := by kernel_rfl
theorem q23 : (Rows.scriptWordsRow.plainKeys == Tryz.prog.plainKeys) = true := by kernel_rfl
theorem q24 : Rows.scriptWordsRow.shortTexts.isNone = true := by kernel_rfl
theorem q25 : Tryz.prog.stopsHeard = true := by kernel_rfl
theorem q26 : Tryz.prog.mayEnter = true := by kernel_rfl
theorem q27 : (Rows.scriptWordsRow.lifted == Tryz.prog.liftsFinal) = true := by kernel_rfl
theorem q28 : (Tryz.prog.make == some Rows.scriptWordsRow.make) = true := by kernel_rfl
theorem q29 : (Rows.scriptWordsRow.kinds == (if Rows.scriptWordsRow.domain.isEmpty then [] else Tryz.f3.params.toList.map fun t => match Tryz.prog.underlying t with | some (.int k) => some k | _ => none)) = true := by kernel_rfl
theorem q30 : (Rows.scriptWordsRow.pinned == Rows.scriptWordsRow.pinnedBy) = true := by kernel_rfl
theorem q31 : (Rows.scriptWordsRow.veiled == (Tryz.f3.params.toList ++ (OpenSpec.ofChange Rows.scriptWordsSpec).bare.plain.varTypes Tryz.prog ++ Tryz.f3.resultTypes.toList).any (Tryz.prog.veiledRec ·)) = true := by kernel_rfl
theorem q32 : Rows.scriptWordsRow.veiledFits Tryz.prog Tryz.f3.params.toList (Tryz.f3.params.toList ++ (OpenSpec.ofChange Rows.scriptWordsSpec).bare.plain.varTypes Tryz.prog ++ Tryz.f3.resultTypes.toList) = true := by kernel_rfl
end Go.Proofs.YtigkblelhghjjaaGreatDoor.scriptWords
end
