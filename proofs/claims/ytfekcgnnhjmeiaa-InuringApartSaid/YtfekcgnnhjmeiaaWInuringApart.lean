/- All walks of one law. -/
import Derived.Test.YtfekcgnnhjmeiaaWInuringApart3
