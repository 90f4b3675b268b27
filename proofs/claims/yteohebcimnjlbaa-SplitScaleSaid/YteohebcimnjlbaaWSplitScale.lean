/- All walks of one law. -/
import Derived.Test.YteohebcimnjlbaaWSplitScale1
