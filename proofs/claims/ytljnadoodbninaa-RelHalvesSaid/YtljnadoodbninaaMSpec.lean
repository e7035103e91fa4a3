/- What the functions of chapter 1 compute, on patterns; and what it is good for. Plain arithmetic. -/
import Derived.Test.YtljnadoodbninaaMPat
namespace Vg

/-- A pattern without the sign of a zero. -/
def plainb (l : Bool) (b : Nat) : Nat := if rg l b = 0 then 0 else b

end Vg
