/- A part of the proofs that a law function returns true at every input; it has no condition of its own. -/
import Derived.Test.YtcljbddnnnbihaaShZ0
set_option linter.unusedSimpArgs false
set_option linter.unusedVariables false
/- ShN0: Small facts. -/
namespace Go.Ab.Sh
open Go Go.Conc Go.RowKit Go.Ab
theorem strs_at {l : List Str} {i : Nat} {t : Str} (h : l[i]? = some t) : (l.map DV.str).getD i .undef = .str t := by simp [List.getD, h]
end Go.Ab.Sh
