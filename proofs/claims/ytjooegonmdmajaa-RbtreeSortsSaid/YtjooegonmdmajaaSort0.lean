/- The library's sort at numbers, laid at this program. -/
import Derived.Test.YtjooegonmdmajaaRb16
import Derived.Ground.NamesProg
import Derived.Ground.Names2Prog
import Derived.Shelf.Lay
import Derived.Shelf.Sort.Plain
import Derived.Shelf.Slices.In.SortNone
import Derived.Shelf.Slices.Reverse
import Derived.Shelf.Slices.CompactI
set_option maxRecDepth 100000
namespace Go.Proofs
open Go.Shelf
shelf_lay Lays.n189 Nm 189 at Try as Try.laysSort
shelf_lay Lays.n112 Nm 112 at Try as Try.laysReverse
shelf_lay Lays2.n20 Nm2 20 at Try as Try.laysCompact
end Go.Proofs
