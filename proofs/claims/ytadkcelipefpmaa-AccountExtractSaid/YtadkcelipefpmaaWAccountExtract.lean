/- All walks of one law. -/
import Derived.Test.YtadkcelipefpmaaWAccountExtract3
