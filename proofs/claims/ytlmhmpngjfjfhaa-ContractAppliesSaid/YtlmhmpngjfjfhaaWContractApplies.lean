/- All walks of one law. -/
import Derived.Test.YtlmhmpngjfjfhaaWContractApplies4
