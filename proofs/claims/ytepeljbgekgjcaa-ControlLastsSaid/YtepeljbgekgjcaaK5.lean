/- Part of the proof. -/
import Derived.Test.YtepeljbgekgjcaaK4
import Derived.Lib.ConvBytes
