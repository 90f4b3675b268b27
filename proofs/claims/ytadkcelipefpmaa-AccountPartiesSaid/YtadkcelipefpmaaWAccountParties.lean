/- All walks of one law. -/
import Derived.Test.YtadkcelipefpmaaWAccountParties2
