/- All walks of one law. -/
import Derived.Test.YteohebcimnjlbaaWSplitParts1
