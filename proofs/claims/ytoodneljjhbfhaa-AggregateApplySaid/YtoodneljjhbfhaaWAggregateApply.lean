/- All walks of one law. -/
import Derived.Test.YtoodneljjhbfhaaWAggregateApply1
