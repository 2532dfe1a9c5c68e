/- Part of the proof. -/
import Derived.Test.YtnoggejkkjngjaaK4
import Derived.Lib.ConvBytes
