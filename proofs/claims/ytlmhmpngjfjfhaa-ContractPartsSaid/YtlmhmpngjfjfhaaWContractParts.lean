/- All walks of one law. -/
import Derived.Test.YtlmhmpngjfjfhaaWContractParts2
