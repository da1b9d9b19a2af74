/- No table is asked by the walks of this seat. -/
import Derived.Test.YtcgejogmiglalaaDoorProg
namespace Go.Proofs.YtcgejogmiglalaaDoor.Lf
open Go
abbrev Tabs (_ : World) : Prop := True
end Go.Proofs.YtcgejogmiglalaaDoor.Lf
