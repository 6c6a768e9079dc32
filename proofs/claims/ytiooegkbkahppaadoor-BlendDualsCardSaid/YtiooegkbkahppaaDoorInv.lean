/- What is asked of the world: nothing. No condition. -/
import Derived.Test.YtiooegkbkahppaaDoorEv11
namespace Go.Proofs.YtiooegkbkahppaaDoor
def Inv : World → Prop := Any
theorem inv_stays : Stays Inv := any_stays
end Go.Proofs.YtiooegkbkahppaaDoor
