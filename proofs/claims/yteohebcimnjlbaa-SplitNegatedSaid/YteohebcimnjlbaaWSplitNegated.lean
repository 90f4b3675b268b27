/- All walks of one law. -/
import Derived.Test.YteohebcimnjlbaaWSplitNegated1
