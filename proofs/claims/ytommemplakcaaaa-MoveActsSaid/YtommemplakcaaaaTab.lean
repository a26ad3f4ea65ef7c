/-
  The types that the code names, in a table, and that the program has them so. Written by a program (mktab.py).
-/
import Derived.Test.YtommemplakcaaaaProg
import Derived.Test.YtommemplakcaaaaRule4
import Derived.KernelRfl
namespace Go.Proofs.Ytommemplakcaaaa

def TT : Tab := [
  (3, { und := .int .i64, size := 1, bytes := 8, zero := some (.int .i64 0) }),
  (4, { und := .bool, size := 1, bytes := 1, zero := some (.bool false) }),
  (5, { und := .int .u8, size := 1, bytes := 1, zero := some (.int .u8 0) }),
  (9, { und := .string, size := 1, bytes := 16, zero := some (.string ByteArray.empty) }),
  (23, { und := .slice 5, size := 1, bytes := 24, zero := some (.slice none 0 0) }),
  (25, { und := .struct #[{ name := "B", type := 23, offset := 0, embedded := false, tag := "", pkgPath := "", byteOffset := 0 }, { name := "Steps", type := 3, offset := 1, embedded := false, tag := "", pkgPath := "", byteOffset := 24 }], size := 2, bytes := 32, zero := some (.agg #[.slice none 0 0, .int .i64 0]) }),
  (28, { und := .pointer 83, size := 1, bytes := 8, zero := some (.pointer none) }),
  (29, { und := .int .i64, size := 1, bytes := 8, zero := some (.int .i64 0) }),
  (34, { und := .array 2 5, size := 2, bytes := 2, zero := some (.agg #[.int .u8 0, .int .u8 0]) }),
  (36, { und := .func #[3, 3, 3] #[29] false, size := 1, bytes := 8, zero := some (.nilFunc) }),
  (40, { und := .array 3 5, size := 3, bytes := 3, zero := some (.agg #[.int .u8 0, .int .u8 0, .int .u8 0]) }),
  (41, { und := .slice 48, size := 1, bytes := 24, zero := some (.slice none 0 0) }),
  (43, { und := .pointer 86, size := 1, bytes := 8, zero := some (.pointer none) }),
  (48, { und := .struct #[{ name := "Step", type := 4, offset := 0, embedded := false, tag := "", pkgPath := "", byteOffset := 0 }, { name := "At", type := 3, offset := 1, embedded := false, tag := "", pkgPath := "", byteOffset := 8 }, { name := "N", type := 3, offset := 2, embedded := false, tag := "", pkgPath := "", byteOffset := 16 }, { name := "Bytes", type := 23, offset := 3, embedded := false, tag := "", pkgPath := "", byteOffset := 24 }], size := 4, bytes := 48, zero := some (.agg #[.bool false, .int .i64 0, .int .i64 0, .slice none 0 0]) }),
  (53, { und := .array 3 3, size := 3, bytes := 24, zero := some (.agg #[.int .i64 0, .int .i64 0, .int .i64 0]) }),
  (54, { und := .pointer 89, size := 1, bytes := 8, zero := some (.pointer none) }),
  (58, { und := .struct #[{ name := "A", type := 25, offset := 0, embedded := false, tag := "", pkgPath := "", byteOffset := 0 }, { name := "From", type := 3, offset := 2, embedded := false, tag := "", pkgPath := "", byteOffset := 32 }, { name := "To", type := 3, offset := 3, embedded := false, tag := "", pkgPath := "", byteOffset := 40 }, { name := "Size", type := 3, offset := 4, embedded := false, tag := "", pkgPath := "", byteOffset := 48 }, { name := "Gone", type := 3, offset := 5, embedded := false, tag := "", pkgPath := "", byteOffset := 56 }], size := 6, bytes := 64, zero := some (.agg #[.slice none 0 0, .int .i64 0, .int .i64 0, .int .i64 0, .int .i64 0, .int .i64 0]) }),
  (63, { und := .slice 69, size := 1, bytes := 24, zero := some (.slice none 0 0) }),
  (65, { und := .int .u64, size := 1, bytes := 8, zero := some (.int .u64 0) }),
  (69, { und := .struct #[{ name := "Kind", type := 5, offset := 0, embedded := false, tag := "", pkgPath := "", byteOffset := 0 }, { name := "At", type := 3, offset := 1, embedded := false, tag := "", pkgPath := "", byteOffset := 8 }, { name := "From", type := 3, offset := 2, embedded := false, tag := "", pkgPath := "", byteOffset := 16 }, { name := "N", type := 3, offset := 3, embedded := false, tag := "", pkgPath := "", byteOffset := 24 }, { name := "W", type := 65, offset := 4, embedded := false, tag := "", pkgPath := "", byteOffset := 32 }, { name := "Bytes", type := 23, offset := 5, embedded := false, tag := "", pkgPath := "", byteOffset := 40 }], size := 6, bytes := 64, zero := some (.agg #[.int .u8 0, .int .i64 0, .int .i64 0, .int .i64 0, .int .u64 0, .slice none 0 0]) }),
  (81, { und := .func #[3] #[] false, size := 1, bytes := 8, zero := some (.nilFunc) }),
  (83, { und := .struct #[{ name := "b", type := 23, offset := 0, embedded := false, tag := "", pkgPath := "almery/arena", byteOffset := 0 }, { name := "used", type := 81, offset := 1, embedded := false, tag := "", pkgPath := "almery/arena", byteOffset := 24 }], size := 2, bytes := 32, zero := some (.agg #[.slice none 0 0, .nilFunc]) }),
  (86, { und := .struct #[{ name := "copy", type := 36, offset := 0, embedded := false, tag := "", pkgPath := "almery/move", byteOffset := 0 }, { name := "from", type := 3, offset := 1, embedded := false, tag := "", pkgPath := "almery/move", byteOffset := 8 }, { name := "to", type := 3, offset := 2, embedded := false, tag := "", pkgPath := "almery/move", byteOffset := 16 }, { name := "size", type := 3, offset := 3, embedded := false, tag := "", pkgPath := "almery/move", byteOffset := 24 }, { name := "gone", type := 3, offset := 4, embedded := false, tag := "", pkgPath := "almery/move", byteOffset := 32 }], size := 5, bytes := 40, zero := some (.agg #[.nilFunc, .int .i64 0, .int .i64 0, .int .i64 0, .int .i64 0]) }),
  (89, { und := .struct #[{ name := "total", type := 3, offset := 0, embedded := false, tag := "", pkgPath := "almery/meter", byteOffset := 0 }, { name := "lap", type := 3, offset := 1, embedded := false, tag := "", pkgPath := "almery/meter", byteOffset := 8 }], size := 2, bytes := 16, zero := some (.agg #[.int .i64 0, .int .i64 0]) })]
theorem hTT : TabOk Try.prog TT := ⟨⟨Try.underlying3, by kernel_rfl⟩,
  ⟨Try.underlying4, by kernel_rfl⟩,
  ⟨Try.underlying5, by kernel_rfl⟩,
  ⟨Try.underlying9, by kernel_rfl⟩,
  ⟨Try.underlying23, by kernel_rfl⟩,
  ⟨Try.underlying25, by kernel_rfl⟩,
  ⟨Try.underlying28, by kernel_rfl⟩,
  ⟨Try.underlying29, by kernel_rfl⟩,
  ⟨Try.underlying34, by kernel_rfl⟩,
  ⟨Try.underlying36, by kernel_rfl⟩,
  ⟨Try.underlying40, by kernel_rfl⟩,
  ⟨Try.underlying41, by kernel_rfl⟩,
  ⟨Try.underlying43, by kernel_rfl⟩,
  ⟨Try.underlying48, by kernel_rfl⟩,
  ⟨Try.underlying53, by kernel_rfl⟩,
  ⟨Try.underlying54, by kernel_rfl⟩,
  ⟨Try.underlying58, by kernel_rfl⟩,
  ⟨Try.underlying63, by kernel_rfl⟩,
  ⟨Try.underlying65, by kernel_rfl⟩,
  ⟨Try.underlying69, by kernel_rfl⟩,
  ⟨Try.underlying81, by kernel_rfl⟩,
  ⟨Try.underlying83, by kernel_rfl⟩,
  ⟨Try.underlying86, by kernel_rfl⟩,
  ⟨Try.underlying89, by kernel_rfl⟩, trivial⟩
theorem mixed : Try.prog.follows .mixedOrders = true := by kernel_rfl
end Go.Proofs.Ytommemplakcaaaa
