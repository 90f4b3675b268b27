/- All walks of one law. -/
import Derived.Test.YtoodneljjhbfhaaWInsolvencySetOff2
