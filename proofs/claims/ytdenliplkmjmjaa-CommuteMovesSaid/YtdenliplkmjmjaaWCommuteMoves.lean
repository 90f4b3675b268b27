/- All walks of one law. -/
import Derived.Test.YtdenliplkmjmjaaWCommuteMoves3
