/- All walks of one law. -/
import Derived.Test.YtadkcelipefpmaaWLedgerValidate3
