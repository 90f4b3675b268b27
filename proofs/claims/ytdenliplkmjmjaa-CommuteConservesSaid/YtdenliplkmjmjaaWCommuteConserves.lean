/- All walks of one law. -/
import Derived.Test.YtdenliplkmjmjaaWCommuteConserves3
