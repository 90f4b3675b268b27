/- All walks of one law. -/
import Derived.Test.YtlmhmpngjfjfhaaWProportionalAdds2
