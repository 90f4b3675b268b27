/- All walks of one law. -/
import Derived.Test.YtadkcelipefpmaaWLedgerTotals3
