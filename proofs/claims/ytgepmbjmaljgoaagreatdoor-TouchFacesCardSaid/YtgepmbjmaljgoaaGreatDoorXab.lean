/- A part of the proof. -/
import Derived.Test.YtgepmbjmaljgoaaGreatDoorXaa
section
end
