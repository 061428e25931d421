/- The tables of the program's types, laid by a program (wip/tools/gentab.py); each held against the program by the kernel. -/
import Derived.Test.YtjooegonmdmajaaE
import Derived.Test.YtjooegonmdmajaaProg
namespace Go.Proofs.YtjooegonmdmajaaX
open Go
def tab : Tab where
  flats := [(35, [(0, false), (1, false)])]
  pls := [(35, [(0, 1), (1, 1)]), (40, [(0, 1), (1, 1)]), (82, [(0, 1), (1, 1), (2, 1), (3, 1), (4, 1)]), (84, [(0, 1), (1, 1), (2, 1), (3, 1), (4, 1)])]
  offs := [(35, [0, 1]), (40, [0, 1]), (53, [0, 1]), (82, [0, 1, 2, 3, 4]), (84, [0, 1, 2, 3, 4])]
  tks := [(2, false, 1), (3, false, 1), (4, false, 1), (22, false, 1), (24, false, 1), (33, false, 1), (35, true, 2), (40, true, 2), (53, true, 2), (76, false, 1), (77, false, 1), (78, false, 1), (79, false, 1), (82, true, 5), (84, true, 5), (107, false, 1), (121, false, 1)]
  zs := [(3, [.int .i64 0]), (4, [.bool false]), (22, [.slice none 0 0]), (24, [.pointer none]), (35, [.int .i64 0, .int .u64 0]), (40, [.bool false, .slice none 0 0]), (53, [.bool false, .int .i64 0]), (82, [.pointer none, .int .i64 0, .nilFunc, .nilFunc, .nilFunc]), (84, [.int .i64 0, .slice none 0 0, .pointer none, .pointer none, .bool false]), (121, [.int .u64 0])]
  iks := [(2, .i64), (3, .i64), (5, .u8), (21, .i32), (33, .u64), (104, .u64), (119, .u32), (121, .u64)]
  kinds := [(4, 1), (9, 6), (22, 4), (24, 2), (26, 3), (45, 4), (51, 4), (76, 3), (77, 3), (78, 3), (79, 2), (125, 2)]
  sls := [(22, 3, 1, 8), (45, 35, 2, 16), (51, 53, 2, 16)]
set_option maxRecDepth 100000 in
theorem tabOk : TabOk Try.prog tab where
  flats := by kernel_rfl
  pls := by kernel_rfl
  offs := by kernel_rfl
  tks := by kernel_rfl
  zs := ⟨by kernel_rfl, by kernel_rfl, by kernel_rfl, by kernel_rfl, by kernel_rfl, by kernel_rfl, by kernel_rfl, by kernel_rfl, by kernel_rfl, by kernel_rfl, trivial⟩
  iks := by kernel_rfl
  kinds := by kernel_rfl
  sls := by kernel_rfl
  mixed := by kernel_rfl
end Go.Proofs.YtjooegonmdmajaaX
