/- Joined by program out of: FactsCScriptWords. -/
import Derived.Test.YtigkblelhghjjaaGreatDoorDipQ
set_option linter.all false
/- Closed facts on the row of ScriptWords. -/
section
set_option linter.unusedVariables false
set_option maxRecDepth 100000
namespace Go.Proofs.YtigkblelhghjjaaGreatDoor.scriptWords
theorem q11 : (Rows.scriptWordsRow.unfollowed == Tryz.prog.unfollowed 3) = true := by kernel_rfl
end Go.Proofs.YtigkblelhghjjaaGreatDoor.scriptWords
end
