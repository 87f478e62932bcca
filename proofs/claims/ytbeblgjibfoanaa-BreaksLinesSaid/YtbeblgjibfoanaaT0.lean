/- The table of types of this seat's program. -/
import Derived.Test.YtbeblgjibfoanaaA21
import Derived.Test.YtbeblgjibfoanaaChecked
namespace Go.Proofs.Ytbeblgjibfoanaa.Am
open Go
def Θ : Tab := [
  (3, { k := .int .i64, size := 1, bytes := 8, zero := [.int .i64 0] }),
  (4, { k := .bool, size := 1, bytes := 1, zero := [.bool false] }),
  (9, { k := .string, size := 1, bytes := 16, zero := [.string .empty] }),
  (22, { k := .slice 49, size := 1, bytes := 24, zero := [.slice none 0 0] }),
  (23, { k := .struct [(0, 3), (1, 3), (2, 3), (3, 3), (4, 3)], size := 5, bytes := 40, zero := [.int .i64 0, .int .i64 0, .int .i64 0, .int .i64 0, .int .i64 0] }),
  (24, { k := .struct [(0, 3), (1, 3), (2, 3), (3, 3), (4, 3)], size := 5, bytes := 40, zero := [.int .i64 0, .int .i64 0, .int .i64 0, .int .i64 0, .int .i64 0] }),
  (28, { k := .slice 3, size := 1, bytes := 24, zero := [.slice none 0 0] }),
  (29, { k := .struct [(0, 28), (1, 3), (2, 4)], size := 3, bytes := 40, zero := [.slice none 0 0, .int .i64 0, .bool false] }),
  (30, { k := .struct [(0, 28), (1, 3), (2, 4)], size := 3, bytes := 40, zero := [.slice none 0 0, .int .i64 0, .bool false] }),
  (31, { k := .int .i64, size := 1, bytes := 8, zero := [.int .i64 0] }),
  (42, { k := .ptr 44, size := 1, bytes := 8, zero := [.pointer none] }),
  (43, { k := .struct [(0, 22), (1, 24), (6, 3), (7, 3), (8, 4)], size := 9, bytes := 88, zero := [.slice none 0 0, .int .i64 0, .int .i64 0, .int .i64 0, .int .i64 0, .int .i64 0, .int .i64 0, .int .i64 0, .bool false] }),
  (44, { k := .struct [(0, 22), (1, 24), (6, 3), (7, 3), (8, 4)], size := 9, bytes := 88, zero := [.slice none 0 0, .int .i64 0, .int .i64 0, .int .i64 0, .int .i64 0, .int .i64 0, .int .i64 0, .int .i64 0, .bool false] }),
  (48, { k := .struct [(0, 3), (1, 3), (2, 3), (3, 3), (4, 3), (5, 4), (6, 3), (7, 3), (8, 3), (9, 3), (10, 28)], size := 11, bytes := 104, zero := [.int .i64 0, .int .i64 0, .int .i64 0, .int .i64 0, .int .i64 0, .bool false, .int .i64 0, .int .i64 0, .int .i64 0, .int .i64 0, .slice none 0 0] }),
  (49, { k := .struct [(0, 3), (1, 3), (2, 3), (3, 3), (4, 3), (5, 4), (6, 3), (7, 3), (8, 3), (9, 3), (10, 28)], size := 11, bytes := 104, zero := [.int .i64 0, .int .i64 0, .int .i64 0, .int .i64 0, .int .i64 0, .bool false, .int .i64 0, .int .i64 0, .int .i64 0, .int .i64 0, .slice none 0 0] }),
  (51, { k := .struct [(0, 3), (1, 3)], size := 2, bytes := 16, zero := [.int .i64 0, .int .i64 0] }),
  (52, { k := .struct [(0, 3), (1, 3)], size := 2, bytes := 16, zero := [.int .i64 0, .int .i64 0] }),
  (62, { k := .ptr 71, size := 1, bytes := 8, zero := [.pointer none] }),
  (64, { k := .slice 69, size := 1, bytes := 24, zero := [.slice none 0 0] }),
  (66, { k := .ptr 69, size := 1, bytes := 8, zero := [.pointer none] }),
  (67, { k := .array 4 3, size := 4, bytes := 32, zero := [.int .i64 0, .int .i64 0, .int .i64 0, .int .i64 0] }),
  (68, { k := .struct [(0, 67), (4, 67)], size := 8, bytes := 64, zero := [.int .i64 0, .int .i64 0, .int .i64 0, .int .i64 0, .int .i64 0, .int .i64 0, .int .i64 0, .int .i64 0] }),
  (69, { k := .struct [(0, 67), (4, 67)], size := 8, bytes := 64, zero := [.int .i64 0, .int .i64 0, .int .i64 0, .int .i64 0, .int .i64 0, .int .i64 0, .int .i64 0, .int .i64 0] }),
  (70, { k := .struct [(0, 22), (1, 28), (2, 28), (3, 28), (4, 28), (5, 28)], size := 6, bytes := 144, zero := [.slice none 0 0, .slice none 0 0, .slice none 0 0, .slice none 0 0, .slice none 0 0, .slice none 0 0] }),
  (71, { k := .struct [(0, 22), (1, 28), (2, 28), (3, 28), (4, 28), (5, 28)], size := 6, bytes := 144, zero := [.slice none 0 0, .slice none 0 0, .slice none 0 0, .slice none 0 0, .slice none 0 0, .slice none 0 0] }),
  (72, { k := .struct [(0, 3), (1, 3), (2, 3), (3, 3), (4, 3), (5, 4)], size := 6, bytes := 48, zero := [.int .i64 0, .int .i64 0, .int .i64 0, .int .i64 0, .int .i64 0, .bool false] }),
  (73, { k := .struct [(0, 3), (1, 3), (2, 3), (3, 3), (4, 3), (5, 4)], size := 6, bytes := 48, zero := [.int .i64 0, .int .i64 0, .int .i64 0, .int .i64 0, .int .i64 0, .bool false] }),
  (77, { k := .slice 80, size := 1, bytes := 24, zero := [.slice none 0 0] }),
  (78, { k := .struct [(0, 3), (1, 3)], size := 2, bytes := 16, zero := [.int .i64 0, .int .i64 0] }),
  (79, { k := .struct [(0, 3), (1, 3)], size := 2, bytes := 16, zero := [.int .i64 0, .int .i64 0] }),
  (80, { k := .array 4 79, size := 8, bytes := 64, zero := [.int .i64 0, .int .i64 0, .int .i64 0, .int .i64 0, .int .i64 0, .int .i64 0, .int .i64 0, .int .i64 0] }),
  (82, { k := .struct [(0, 3), (1, 3), (2, 4)], size := 3, bytes := 24, zero := [.int .i64 0, .int .i64 0, .bool false] }),
  (83, { k := .struct [(0, 3), (1, 3), (2, 4)], size := 3, bytes := 24, zero := [.int .i64 0, .int .i64 0, .bool false] }),
  (94, { k := .array 3 3, size := 3, bytes := 24, zero := [.int .i64 0, .int .i64 0, .int .i64 0] }),
  (5, { k := .int .u8, size := 1, bytes := 1, zero := [.int .u8 0] }),
  (97, { k := .int .u64, size := 1, bytes := 8, zero := [.int .u64 0] }),
  (99, { k := .int .u64, size := 1, bytes := 8, zero := [.int .u64 0] })
]
set_option maxRecDepth 100000 in
theorem hT : tabOk Try.prog Θ = true := by kernel_rfl
end Go.Proofs.Ytbeblgjibfoanaa.Am
