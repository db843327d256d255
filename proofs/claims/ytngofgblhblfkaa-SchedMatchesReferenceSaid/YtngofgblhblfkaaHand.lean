/- The contracts of sched.Repair, sched.Random and sched.Fair together; the conditions stand in each. -/
import Derived.Test.YtngofgblhblfkaaHand1
import Derived.Test.YtngofgblhblfkaaRandom
import Derived.Test.YtngofgblhblfkaaFair
