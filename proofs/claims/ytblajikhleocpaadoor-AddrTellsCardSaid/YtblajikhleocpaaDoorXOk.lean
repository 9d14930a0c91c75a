/- What was shown of functions by other means, together. -/
import Derived.Test.YtblajikhleocpaaDoorX5
import Derived.Test.YtblajikhleocpaaDoorX6
