/- All walks of one law. -/
import Derived.Test.YtadkcelipefpmaaWLedgerKeeps3
