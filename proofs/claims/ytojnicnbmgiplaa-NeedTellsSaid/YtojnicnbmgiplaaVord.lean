/- Parts of an abstract logic over the kit's walks, and walks in it: Vord. -/
import Derived.Test.YtojnicnbmgiplaaBa
/- Texts in order: what '>' tells. -/
namespace Go.AL
end Go.AL
