/- All walks of one law. -/
import Derived.Test.YtoodneljjhbfhaaWInsolvencyFunds2
