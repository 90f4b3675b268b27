/- All walks of one law. -/
import Derived.Test.YtlmhmpngjfjfhaaWContractAdds1
