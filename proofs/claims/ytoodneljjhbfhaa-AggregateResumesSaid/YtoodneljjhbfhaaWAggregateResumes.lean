/- All walks of one law. -/
import Derived.Test.YtoodneljjhbfhaaWAggregateResumes1
