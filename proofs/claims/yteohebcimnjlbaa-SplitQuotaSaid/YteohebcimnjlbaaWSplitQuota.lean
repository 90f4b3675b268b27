/- All walks of one law. -/
import Derived.Test.YteohebcimnjlbaaWSplitQuota1
