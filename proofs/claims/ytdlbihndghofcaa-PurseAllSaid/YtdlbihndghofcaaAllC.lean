/- PurseAll: both together. -/
import Derived.Test.YtdlbihndghofcaaAllB
import Derived.Test.YtdlbihndghofcaaPO
