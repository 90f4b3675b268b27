/- All walks of one law. -/
import Derived.Test.YtipblbjkbeiflaaWAccountBalance2
