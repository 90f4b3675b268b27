/- All walks of one law. -/
import Derived.Test.YtadkcelipefpmaaWAccountSame3
