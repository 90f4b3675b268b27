/- All walks of one law. -/
import Derived.Test.YtlmhmpngjfjfhaaWProportionalCede3
