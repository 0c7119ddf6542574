/- The law's means, as a plain function. -/
import Derived.Test.YtddilmocngedjaaDoorPthM
namespace Go.Proofs.YtddilmocngedjaaDoor
def meansP : List (List UInt8) → List (List UInt8) → Bool
  | [], p => p.isEmpty
  | a :: l, [] => decide (a = [42, 42]) && meansP l []
  | a :: l, x :: p => if a = [42, 42] then meansP l (x :: p) || meansP (a :: l) p else decide (a = [42] ∨ a = x) && meansP l p
termination_by l p => l.length + p.length
end Go.Proofs.YtddilmocngedjaaDoor
