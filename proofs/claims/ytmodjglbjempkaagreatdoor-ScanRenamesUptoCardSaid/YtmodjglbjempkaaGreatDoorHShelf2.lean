/- The shelf, second part: as the first. -/
import Derived.Test.YtmodjglbjempkaaGreatDoorHShelf
set_option linter.unusedSimpArgs false
set_option linter.unusedVariables false

