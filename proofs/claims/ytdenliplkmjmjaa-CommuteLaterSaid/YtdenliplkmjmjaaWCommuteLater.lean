/- All walks of one law. -/
import Derived.Test.YtdenliplkmjmjaaWCommuteLater3
