/-
  Lists of numbers as arguments of a statement: nothing more is wanted than what Open has.
-/
import Derived.Test.YtnhcjbebfddcdaaOpen
