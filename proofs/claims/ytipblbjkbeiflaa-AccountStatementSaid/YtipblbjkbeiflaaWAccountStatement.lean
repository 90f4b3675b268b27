/- All walks of one law. -/
import Derived.Test.YtipblbjkbeiflaaWAccountStatement2
