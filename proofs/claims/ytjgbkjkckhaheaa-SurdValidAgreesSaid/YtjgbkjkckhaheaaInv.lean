/- What is asked of the world: nothing. No condition. -/
import Derived.Test.YtjgbkjkckhaheaaEv11
namespace Go.Proofs.Ytjgbkjkckhaheaa
def Inv : World → Prop := Any
theorem inv_stays : Stays Inv := any_stays
end Go.Proofs.Ytjgbkjkckhaheaa
