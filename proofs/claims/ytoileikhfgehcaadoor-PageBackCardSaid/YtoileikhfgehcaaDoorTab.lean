/-
  The types that the code names, in a table, and that the program has them so. Written by a program (mktab.py).
-/
import Derived.Test.YtoileikhfgehcaaDoorProg
import Derived.Test.YtoileikhfgehcaaDoorRule4
import Derived.KernelRfl
namespace Go.Proofs.YtoileikhfgehcaaDoor

def TT : Tab := [
  (3, { und := .int .i64, size := 1, bytes := 8, zero := some (.int .i64 0) }),
  (4, { und := .bool, size := 1, bytes := 1, zero := some (.bool false) }),
  (5, { und := .int .u8, size := 1, bytes := 1, zero := some (.int .u8 0) }),
  (9, { und := .string, size := 1, bytes := 16, zero := some (.string ByteArray.empty) }),
  (22, { und := .slice 33, size := 1, bytes := 24, zero := some (.slice none 0 0) }),
  (24, { und := .pointer 66, size := 1, bytes := 8, zero := some (.pointer none) }),
  (25, { und := .int .i64, size := 1, bytes := 8, zero := some (.int .i64 0) }),
  (28, { und := .slice 4, size := 1, bytes := 24, zero := some (.slice none 0 0) }),
  (33, { und := .struct #[{ name := "At", type := 3, offset := 0, embedded := false, tag := "", pkgPath := "", byteOffset := 0 }, { name := "Is", type := 4, offset := 1, embedded := false, tag := "", pkgPath := "", byteOffset := 8 }], size := 2, bytes := 16, zero := some (.agg #[.int .i64 0, .bool false]) }),
  (40, { und := .int .u16, size := 1, bytes := 2, zero := some (.int .u16 0) }),
  (42, { und := .pointer 71, size := 1, bytes := 8, zero := some (.pointer none) }),
  (45, { und := .slice 3, size := 1, bytes := 24, zero := some (.slice none 0 0) }),
  (52, { und := .slice 55, size := 1, bytes := 24, zero := some (.slice none 0 0) }),
  (55, { und := .struct #[{ name := "Kind", type := 5, offset := 0, embedded := false, tag := "", pkgPath := "", byteOffset := 0 }, { name := "At", type := 3, offset := 1, embedded := false, tag := "", pkgPath := "", byteOffset := 8 }, { name := "Owner", type := 3, offset := 2, embedded := false, tag := "", pkgPath := "", byteOffset := 16 }], size := 3, bytes := 24, zero := some (.agg #[.int .u8 0, .int .i64 0, .int .i64 0]) }),
  (63, { und := .int .u64, size := 1, bytes := 8, zero := some (.int .u64 0) }),
  (64, { und := .array 8 63, size := 8, bytes := 64, zero := some (.agg #[.int .u64 0, .int .u64 0, .int .u64 0, .int .u64 0, .int .u64 0, .int .u64 0, .int .u64 0, .int .u64 0]) }),
  (66, { und := .struct #[{ name := "words", type := 64, offset := 0, embedded := false, tag := "", pkgPath := "almery/bits", byteOffset := 0 }, { name := "many", type := 3, offset := 8, embedded := false, tag := "", pkgPath := "almery/bits", byteOffset := 64 }, { name := "count", type := 3, offset := 9, embedded := false, tag := "", pkgPath := "almery/bits", byteOffset := 72 }], size := 10, bytes := 80, zero := some (.agg #[.int .u64 0, .int .u64 0, .int .u64 0, .int .u64 0, .int .u64 0, .int .u64 0, .int .u64 0, .int .u64 0, .int .i64 0, .int .i64 0]) }),
  (69, { und := .map 3 3, size := 1, bytes := 8, zero := some (.map none) }),
  (71, { und := .struct #[{ name := "Bits", type := 24, offset := 0, embedded := true, tag := "", pkgPath := "", byteOffset := 0 }, { name := "blocks", type := 3, offset := 1, embedded := false, tag := "", pkgPath := "almery/page", byteOffset := 8 }, { name := "owners", type := 69, offset := 2, embedded := false, tag := "", pkgPath := "almery/page", byteOffset := 16 }], size := 3, bytes := 24, zero := some (.agg #[.pointer none, .int .i64 0, .map none]) }),
  (77, { und := .array 64 5, size := 64, bytes := 64, zero := some (.agg #[.int .u8 0, .int .u8 0, .int .u8 0, .int .u8 0, .int .u8 0, .int .u8 0, .int .u8 0, .int .u8 0, .int .u8 0, .int .u8 0, .int .u8 0, .int .u8 0, .int .u8 0, .int .u8 0, .int .u8 0, .int .u8 0, .int .u8 0, .int .u8 0, .int .u8 0, .int .u8 0, .int .u8 0, .int .u8 0, .int .u8 0, .int .u8 0, .int .u8 0, .int .u8 0, .int .u8 0, .int .u8 0, .int .u8 0, .int .u8 0, .int .u8 0, .int .u8 0, .int .u8 0, .int .u8 0, .int .u8 0, .int .u8 0, .int .u8 0, .int .u8 0, .int .u8 0, .int .u8 0, .int .u8 0, .int .u8 0, .int .u8 0, .int .u8 0, .int .u8 0, .int .u8 0, .int .u8 0, .int .u8 0, .int .u8 0, .int .u8 0, .int .u8 0, .int .u8 0, .int .u8 0, .int .u8 0, .int .u8 0, .int .u8 0, .int .u8 0, .int .u8 0, .int .u8 0, .int .u8 0, .int .u8 0, .int .u8 0, .int .u8 0, .int .u8 0]) })]
theorem hTT : TabOk Tryd.prog TT := ⟨⟨Tryd.underlying3, by kernel_rfl⟩,
  ⟨Tryd.underlying4, by kernel_rfl⟩,
  ⟨Tryd.underlying5, by kernel_rfl⟩,
  ⟨Tryd.underlying9, by kernel_rfl⟩,
  ⟨Tryd.underlying22, by kernel_rfl⟩,
  ⟨Tryd.underlying24, by kernel_rfl⟩,
  ⟨Tryd.underlying25, by kernel_rfl⟩,
  ⟨Tryd.underlying28, by kernel_rfl⟩,
  ⟨Tryd.underlying33, by kernel_rfl⟩,
  ⟨Tryd.underlying40, by kernel_rfl⟩,
  ⟨Tryd.underlying42, by kernel_rfl⟩,
  ⟨Tryd.underlying45, by kernel_rfl⟩,
  ⟨Tryd.underlying52, by kernel_rfl⟩,
  ⟨Tryd.underlying55, by kernel_rfl⟩,
  ⟨Tryd.underlying63, by kernel_rfl⟩,
  ⟨Tryd.underlying64, by kernel_rfl⟩,
  ⟨Tryd.underlying66, by kernel_rfl⟩,
  ⟨Tryd.underlying69, by kernel_rfl⟩,
  ⟨Tryd.underlying71, by kernel_rfl⟩,
  ⟨Tryd.underlying77, by kernel_rfl⟩, trivial⟩
theorem mixed : Tryd.prog.follows .mixedOrders = true := by kernel_rfl
end Go.Proofs.YtoileikhfgehcaaDoor
