/- All walks of one law. -/
import Derived.Test.YtadkcelipefpmaaWLedgerCollect2
