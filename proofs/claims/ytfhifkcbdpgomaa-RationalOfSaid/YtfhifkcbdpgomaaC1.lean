/- All functions of the seat. Conditions: none. -/
import Derived.Test.YtfhifkcbdpgomaaCFairlinklaw011
import Derived.Test.YtfhifkcbdpgomaaCFairlinkref011
import Derived.Test.YtfhifkcbdpgomaaCRational1
import Derived.Test.YtfhifkcbdpgomaaCGosem1
import Derived.Test.YtfhifkcbdpgomaaCBits1
