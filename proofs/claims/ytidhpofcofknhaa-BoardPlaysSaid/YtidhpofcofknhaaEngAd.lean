/-
  A module that only imports. Conditions: none.
-/
import Derived.Test.YtidhpofcofknhaaEd
