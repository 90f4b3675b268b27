/- All walks of one law. -/
import Derived.Test.YtoodneljjhbfhaaWAggregateLeft2
