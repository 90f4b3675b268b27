/- All walks of one law. -/
import Derived.Test.YtfekcgnnhjmeiaaWInuringOrder4
