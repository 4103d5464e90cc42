/- Digests: SHA-256 of abc, evaluated. -/
import Derived.Test.YtjbelkpmbbkhgaaDoorShX
namespace Go.Proofs.YtjbelkpmbbkhgaaDoor
open Go.RowKit Go.Proofs.YtjbelkpmbbkhgaaDoor.Sh
def abcD : List UInt8 := [186, 120, 22, 191, 143, 1, 207, 234, 65, 65, 64, 222, 93, 174, 34, 35, 176, 3, 97, 163, 150, 23, 122, 156, 180, 16, 255, 97, 242, 0, 21, 173]
set_option maxRecDepth 100000 in
theorem sum_abc : sumS [[97], [98, 99]] = abcD := by kernel_rfl
end Go.Proofs.YtjbelkpmbbkhgaaDoor

