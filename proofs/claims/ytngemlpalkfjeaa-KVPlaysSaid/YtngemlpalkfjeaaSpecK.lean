/- Plain facts on numbers as bytes, the highest first. No program in sight. -/
import Derived.KernelRfl
namespace Go.Gl
def b8 (x i : Nat) : Int := ((x / 256 ^ i % 256 : Nat) : Int)
end Go.Gl
