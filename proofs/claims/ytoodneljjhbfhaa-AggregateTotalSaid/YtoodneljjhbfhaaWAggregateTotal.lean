/- All walks of one law. -/
import Derived.Test.YtoodneljjhbfhaaWAggregateTotal1
