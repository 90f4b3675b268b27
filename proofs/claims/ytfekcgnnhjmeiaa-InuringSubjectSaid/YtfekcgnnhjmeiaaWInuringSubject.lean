/- All walks of one law. -/
import Derived.Test.YtfekcgnnhjmeiaaWInuringSubject3
