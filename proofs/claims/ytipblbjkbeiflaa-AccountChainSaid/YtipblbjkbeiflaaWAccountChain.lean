/- All walks of one law. -/
import Derived.Test.YtipblbjkbeiflaaWAccountChain2
