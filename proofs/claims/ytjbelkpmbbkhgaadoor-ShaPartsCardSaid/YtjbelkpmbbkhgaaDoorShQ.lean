/- Digests: the document's parse, walked. -/
import Derived.Test.YtjbelkpmbbkhgaaDoorShP
namespace Go.Proofs.YtjbelkpmbbkhgaaDoor
open Go.RowKit Go.Proofs.YtjbelkpmbbkhgaaDoor.Sh

end Go.Proofs.YtjbelkpmbbkhgaaDoor

