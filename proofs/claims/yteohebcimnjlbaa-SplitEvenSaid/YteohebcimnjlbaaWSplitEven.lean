/- All walks of one law. -/
import Derived.Test.YteohebcimnjlbaaWSplitEven1
