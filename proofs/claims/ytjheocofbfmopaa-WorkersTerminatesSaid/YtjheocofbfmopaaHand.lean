/- The contracts of sched.Repair, sched.Random and sched.Fair together; the conditions stand in each. -/
import Derived.Test.YtjheocofbfmopaaHand1
import Derived.Test.YtjheocofbfmopaaRandom
import Derived.Test.YtjheocofbfmopaaFair
