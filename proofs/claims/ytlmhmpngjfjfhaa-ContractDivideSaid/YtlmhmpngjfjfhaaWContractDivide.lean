/- All walks of one law. -/
import Derived.Test.YtlmhmpngjfjfhaaWContractDivide2
