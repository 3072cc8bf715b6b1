/- Joined by program out of: FactsBScriptWords. -/
import Derived.Test.YtigkblelhghjjaaGreatDoorDipP
set_option linter.all false
/- Closed facts on the row of ScriptWords. -/
section
set_option linter.unusedVariables false
set_option maxRecDepth 100000
namespace Go.Proofs.YtigkblelhghjjaaGreatDoor.scriptWords
theorem q10 : (Rows.scriptWordsRow.inPlace == Tryz.prog.inPlace 3) = true := by kernel_rfl
end Go.Proofs.YtigkblelhghjjaaGreatDoor.scriptWords
end
