/- All walks of one law. -/
import Derived.Test.YtlmhmpngjfjfhaaWContractSigned1
