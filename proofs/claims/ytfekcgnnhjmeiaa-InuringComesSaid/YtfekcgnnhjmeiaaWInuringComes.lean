/- All walks of one law. -/
import Derived.Test.YtfekcgnnhjmeiaaWInuringComes3
