/- All walks of one law. -/
import Derived.Test.YtlmhmpngjfjfhaaWContractSign2
