/- All walks of one law. -/
import Derived.Test.YtlmhmpngjfjfhaaWProportionalSurplus2
