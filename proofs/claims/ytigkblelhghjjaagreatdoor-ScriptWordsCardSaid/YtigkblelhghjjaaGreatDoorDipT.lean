/- Joined by program out of: FactsEScriptWords. -/
import Derived.Test.YtigkblelhghjjaaGreatDoorDipS
import GoSem.ClaimGoes
set_option linter.all false
/- Closed facts on the row of ScriptWords. -/
section
set_option linter.unusedVariables false
set_option maxRecDepth 100000
namespace Go.Proofs.YtigkblelhghjjaaGreatDoor.scriptWords
theorem q13 : (Rows.scriptWordsRow.named == Tryz.prog.varsNamed 3) = true := by kernel_rfl
theorem noGo : Tryz.prog.funcs.any Func.goes = false := by kernel_rfl
end Go.Proofs.YtigkblelhghjjaaGreatDoor.scriptWords
end
