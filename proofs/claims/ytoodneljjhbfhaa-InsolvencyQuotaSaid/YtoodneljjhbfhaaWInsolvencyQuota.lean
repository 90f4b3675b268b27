/- All walks of one law. -/
import Derived.Test.YtoodneljjhbfhaaWInsolvencyQuota2
