/- All walks of one law. -/
import Derived.Test.YtoodneljjhbfhaaWInsolvencyDistribute2
