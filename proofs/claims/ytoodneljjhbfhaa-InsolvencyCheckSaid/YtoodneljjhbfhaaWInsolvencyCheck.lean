/- All walks of one law. -/
import Derived.Test.YtoodneljjhbfhaaWInsolvencyCheck2
