/- All walks of one law. -/
import Derived.Test.YtadkcelipefpmaaWLedgerLast2
