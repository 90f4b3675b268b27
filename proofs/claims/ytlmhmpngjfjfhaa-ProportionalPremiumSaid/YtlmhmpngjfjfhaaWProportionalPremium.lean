/- All walks of one law. -/
import Derived.Test.YtlmhmpngjfjfhaaWProportionalPremium3
