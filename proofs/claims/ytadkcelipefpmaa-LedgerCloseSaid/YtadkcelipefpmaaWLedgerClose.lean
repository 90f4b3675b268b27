/- All walks of one law. -/
import Derived.Test.YtadkcelipefpmaaWLedgerClose3
