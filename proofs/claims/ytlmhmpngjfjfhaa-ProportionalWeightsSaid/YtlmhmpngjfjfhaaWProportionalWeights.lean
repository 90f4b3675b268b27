/- All walks of one law. -/
import Derived.Test.YtlmhmpngjfjfhaaWProportionalWeights3
