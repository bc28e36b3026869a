/- Mirrors that the plain texts speak of and this law does not reach. -/
import Derived.Test.YtmpdebfckeahmaaGreatDoorG7
set_option linter.unusedVariables false
set_option linter.unusedSimpArgs false
open Go Go.SL Go.Proofs
noncomputable section
set_option maxRecDepth 1000000
set_option maxHeartbeats 8000000
structure JA where
  stack : (List Jl)
  Ap : (List Jl)
  atZ : Int
  r : Jg
  done : Bool
  code : Int
