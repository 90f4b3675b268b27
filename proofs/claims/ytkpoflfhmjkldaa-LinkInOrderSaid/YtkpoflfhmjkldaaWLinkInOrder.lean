/- All walks of one law. -/
import Derived.Test.YtkpoflfhmjkldaaWLinkInOrder2
