/- All walks of one law. -/
import Derived.Test.YtoodneljjhbfhaaWAggregateNever1
