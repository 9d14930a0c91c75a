/- What was shown of functions by other means, together. -/
import Derived.Test.YtojlppofmjkmhaaDoorHPrintH
import Derived.Test.YtojlppofmjkmhaaDoorHReadF
