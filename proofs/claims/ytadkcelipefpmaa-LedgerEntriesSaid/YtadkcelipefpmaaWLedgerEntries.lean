/- All walks of one law. -/
import Derived.Test.YtadkcelipefpmaaWLedgerEntries2
