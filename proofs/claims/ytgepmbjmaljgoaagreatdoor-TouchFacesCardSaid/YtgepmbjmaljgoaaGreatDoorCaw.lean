/- A part of the proof. -/
import Derived.Test.YtgepmbjmaljgoaaGreatDoorCav
set_option linter.unusedVariables false
set_option linter.unusedSimpArgs false
section
end
