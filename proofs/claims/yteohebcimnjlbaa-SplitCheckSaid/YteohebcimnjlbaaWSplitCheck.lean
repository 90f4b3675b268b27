/- All walks of one law. -/
import Derived.Test.YteohebcimnjlbaaWSplitCheck1
