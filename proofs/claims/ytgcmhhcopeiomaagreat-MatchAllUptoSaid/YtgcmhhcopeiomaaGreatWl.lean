/- Lists of records as they come in. Conditions: none. -/
import Derived.Test.YtgcmhhcopeiomaaGreatWe
import Derived.Test.YtgcmhhcopeiomaaGreatWk
