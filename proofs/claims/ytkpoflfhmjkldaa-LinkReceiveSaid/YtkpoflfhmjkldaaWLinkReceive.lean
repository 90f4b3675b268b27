/- All walks of one law. -/
import Derived.Test.YtkpoflfhmjkldaaWLinkReceive1
