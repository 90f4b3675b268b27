/- All walks of one law. -/
import Derived.Test.YtlmhmpngjfjfhaaWProportionalOpposite2
