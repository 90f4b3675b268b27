/- All walks of one law. -/
import Derived.Test.YtkpoflfhmjkldaaWLinkEnds2
