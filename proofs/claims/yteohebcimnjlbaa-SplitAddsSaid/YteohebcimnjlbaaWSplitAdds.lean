/- All walks of one law. -/
import Derived.Test.YteohebcimnjlbaaWSplitAdds1
