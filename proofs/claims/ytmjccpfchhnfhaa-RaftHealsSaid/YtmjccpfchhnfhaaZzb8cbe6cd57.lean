/- Texts of the proofs, part 9: what the functions that they reach do, walked; no conditions beyond those that each states. -/
import Derived.Deep.QuietTactic
import Derived.BigQuiet
import Derived.Test.YtmjccpfchhnfhaaZzd082a3abd3
set_option linter.unusedVariables false
set_option linter.unusedSimpArgs false
/- The references' Same: whether two slices of bytes hold the same bytes. -/
namespace Go.Proofs.Ytmjccpfchhnfhaa
open Go.RowKit
end Go.Proofs.Ytmjccpfchhnfhaa
