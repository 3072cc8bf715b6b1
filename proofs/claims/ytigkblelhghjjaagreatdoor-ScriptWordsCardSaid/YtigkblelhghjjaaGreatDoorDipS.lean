/- Joined by program out of: FactsDScriptWords. -/
import Derived.Test.YtigkblelhghjjaaGreatDoorDipR
set_option linter.all false
/- Closed facts on the row of ScriptWords. -/
section
set_option linter.unusedVariables false
set_option maxRecDepth 100000
namespace Go.Proofs.YtigkblelhghjjaaGreatDoor.scriptWords
theorem q12 : (Rows.scriptWordsRow.recurses == Tryz.prog.recurses 3) = true := by kernel_rfl
end Go.Proofs.YtigkblelhghjjaaGreatDoor.scriptWords
end
