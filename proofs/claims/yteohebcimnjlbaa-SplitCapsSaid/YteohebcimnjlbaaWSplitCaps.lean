/- All walks of one law. -/
import Derived.Test.YteohebcimnjlbaaWSplitCaps1
