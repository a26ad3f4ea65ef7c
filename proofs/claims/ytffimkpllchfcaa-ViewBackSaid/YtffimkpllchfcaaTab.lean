/-
  The types that the code names, in a table, and that the program has them so. Written by a program (mktab.py).
-/
import Derived.Test.YtffimkpllchfcaaProg
import Derived.Test.YtffimkpllchfcaaRule4
import Derived.KernelRfl
namespace Go.Proofs.Ytffimkpllchfcaa

def TT : Tab := [
  (3, { und := .int .i64, size := 1, bytes := 8, zero := some (.int .i64 0) }),
  (4, { und := .bool, size := 1, bytes := 1, zero := some (.bool false) }),
  (5, { und := .int .u8, size := 1, bytes := 1, zero := some (.int .u8 0) }),
  (9, { und := .string, size := 1, bytes := 16, zero := some (.string ByteArray.empty) }),
  (22, { und := .slice 3, size := 1, bytes := 24, zero := some (.slice none 0 0) }),
  (24, { und := .struct #[{ name := "Size", type := 3, offset := 0, embedded := false, tag := "", pkgPath := "", byteOffset := 0 }, { name := "Pages", type := 3, offset := 1, embedded := false, tag := "", pkgPath := "", byteOffset := 8 }, { name := "Classes", type := 22, offset := 2, embedded := false, tag := "", pkgPath := "", byteOffset := 16 }, { name := "Keep", type := 22, offset := 3, embedded := false, tag := "", pkgPath := "", byteOffset := 40 }, { name := "Step", type := 3, offset := 4, embedded := false, tag := "", pkgPath := "", byteOffset := 64 }, { name := "Slots", type := 3, offset := 5, embedded := false, tag := "", pkgPath := "", byteOffset := 72 }, { name := "Gens", type := 3, offset := 6, embedded := false, tag := "", pkgPath := "", byteOffset := 80 }, { name := "Most", type := 3, offset := 7, embedded := false, tag := "", pkgPath := "", byteOffset := 88 }], size := 8, bytes := 96, zero := some (.agg #[.int .i64 0, .int .i64 0, .slice none 0 0, .slice none 0 0, .int .i64 0, .int .i64 0, .int .i64 0, .int .i64 0]) }),
  (26, { und := .struct #[{ name := "Class", type := 3, offset := 0, embedded := false, tag := "", pkgPath := "", byteOffset := 0 }, { name := "Page", type := 3, offset := 1, embedded := false, tag := "", pkgPath := "", byteOffset := 8 }, { name := "Index", type := 3, offset := 2, embedded := false, tag := "", pkgPath := "", byteOffset := 16 }, { name := "Pages", type := 22, offset := 3, embedded := false, tag := "", pkgPath := "", byteOffset := 24 }], size := 4, bytes := 48, zero := some (.agg #[.int .i64 0, .int .i64 0, .int .i64 0, .slice none 0 0]) }),
  (29, { und := .pointer 72, size := 1, bytes := 8, zero := some (.pointer none) }),
  (30, { und := .int .i64, size := 1, bytes := 8, zero := some (.int .i64 0) }),
  (33, { und := .pointer 75, size := 1, bytes := 8, zero := some (.pointer none) }),
  (39, { und := .slice 5, size := 1, bytes := 24, zero := some (.slice none 0 0) }),
  (41, { und := .struct #[{ name := "B", type := 39, offset := 0, embedded := false, tag := "", pkgPath := "", byteOffset := 0 }, { name := "Steps", type := 3, offset := 1, embedded := false, tag := "", pkgPath := "", byteOffset := 24 }], size := 2, bytes := 32, zero := some (.agg #[.slice none 0 0, .int .i64 0]) }),
  (43, { und := .struct #[{ name := "C", type := 24, offset := 0, embedded := false, tag := "", pkgPath := "", byteOffset := 0 }, { name := "A", type := 41, offset := 8, embedded := false, tag := "", pkgPath := "", byteOffset := 96 }], size := 10, bytes := 128, zero := some (.agg #[.int .i64 0, .int .i64 0, .slice none 0 0, .slice none 0 0, .int .i64 0, .int .i64 0, .int .i64 0, .int .i64 0, .slice none 0 0, .int .i64 0]) }),
  (48, { und := .struct #[{ name := "Kind", type := 5, offset := 0, embedded := false, tag := "", pkgPath := "", byteOffset := 0 }, { name := "P", type := 26, offset := 1, embedded := false, tag := "", pkgPath := "", byteOffset := 8 }, { name := "At", type := 3, offset := 5, embedded := false, tag := "", pkgPath := "", byteOffset := 56 }, { name := "N", type := 3, offset := 6, embedded := false, tag := "", pkgPath := "", byteOffset := 64 }, { name := "Bytes", type := 39, offset := 7, embedded := false, tag := "", pkgPath := "", byteOffset := 72 }], size := 8, bytes := 96, zero := some (.agg #[.int .u8 0, .int .i64 0, .int .i64 0, .int .i64 0, .slice none 0 0, .int .i64 0, .int .i64 0, .slice none 0 0]) }),
  (49, { und := .array 2 48, size := 16, bytes := 192, zero := some (.agg #[.int .u8 0, .int .i64 0, .int .i64 0, .int .i64 0, .slice none 0 0, .int .i64 0, .int .i64 0, .slice none 0 0, .int .u8 0, .int .i64 0, .int .i64 0, .int .i64 0, .slice none 0 0, .int .i64 0, .int .i64 0, .slice none 0 0]) }),
  (51, { und := .slice 48, size := 1, bytes := 24, zero := some (.slice none 0 0) }),
  (58, { und := .pointer 83, size := 1, bytes := 8, zero := some (.pointer none) }),
  (70, { und := .func #[3] #[] false, size := 1, bytes := 8, zero := some (.nilFunc) }),
  (72, { und := .struct #[{ name := "b", type := 39, offset := 0, embedded := false, tag := "", pkgPath := "almery/arena", byteOffset := 0 }, { name := "used", type := 70, offset := 1, embedded := false, tag := "", pkgPath := "almery/arena", byteOffset := 24 }], size := 2, bytes := 32, zero := some (.agg #[.slice none 0 0, .nilFunc]) }),
  (75, { und := .struct #[{ name := "c", type := 24, offset := 0, embedded := false, tag := "", pkgPath := "almery/view", byteOffset := 0 }, { name := "a", type := 29, offset := 8, embedded := false, tag := "", pkgPath := "almery/view", byteOffset := 96 }, { name := "m", type := 58, offset := 9, embedded := false, tag := "", pkgPath := "almery/view", byteOffset := 104 }], size := 10, bytes := 112, zero := some (.agg #[.int .i64 0, .int .i64 0, .slice none 0 0, .slice none 0 0, .int .i64 0, .int .i64 0, .int .i64 0, .int .i64 0, .pointer none, .pointer none]) }),
  (80, { und := .func #[3, 3] #[] false, size := 1, bytes := 8, zero := some (.nilFunc) }),
  (83, { und := .struct #[{ name := "total", type := 3, offset := 0, embedded := false, tag := "", pkgPath := "almery/meter", byteOffset := 0 }, { name := "lap", type := 3, offset := 1, embedded := false, tag := "", pkgPath := "almery/meter", byteOffset := 8 }], size := 2, bytes := 16, zero := some (.agg #[.int .i64 0, .int .i64 0]) }),
  (91, { und := .func #[3] #[4] false, size := 1, bytes := 8, zero := some (.nilFunc) }),
  (94, { und := .array 8 4, size := 8, bytes := 8, zero := some (.agg #[.bool false, .bool false, .bool false, .bool false, .bool false, .bool false, .bool false, .bool false]) }),
  (96, { und := .slice 4, size := 1, bytes := 24, zero := some (.slice none 0 0) }),
  (107, { und := .slice 110, size := 1, bytes := 24, zero := some (.slice none 0 0) }),
  (110, { und := .struct #[{ name := "N", type := 3, offset := 0, embedded := false, tag := "", pkgPath := "", byteOffset := 0 }, { name := "At", type := 3, offset := 1, embedded := false, tag := "", pkgPath := "", byteOffset := 8 }, { name := "Len", type := 3, offset := 2, embedded := false, tag := "", pkgPath := "", byteOffset := 16 }], size := 3, bytes := 24, zero := some (.agg #[.int .i64 0, .int .i64 0, .int .i64 0]) })]
theorem hTT : TabOk Try.prog TT := ⟨⟨Try.underlying3, by kernel_rfl⟩,
  ⟨Try.underlying4, by kernel_rfl⟩,
  ⟨Try.underlying5, by kernel_rfl⟩,
  ⟨Try.underlying9, by kernel_rfl⟩,
  ⟨Try.underlying22, by kernel_rfl⟩,
  ⟨Try.underlying24, by kernel_rfl⟩,
  ⟨Try.underlying26, by kernel_rfl⟩,
  ⟨Try.underlying29, by kernel_rfl⟩,
  ⟨Try.underlying30, by kernel_rfl⟩,
  ⟨Try.underlying33, by kernel_rfl⟩,
  ⟨Try.underlying39, by kernel_rfl⟩,
  ⟨Try.underlying41, by kernel_rfl⟩,
  ⟨Try.underlying43, by kernel_rfl⟩,
  ⟨Try.underlying48, by kernel_rfl⟩,
  ⟨Try.underlying49, by kernel_rfl⟩,
  ⟨Try.underlying51, by kernel_rfl⟩,
  ⟨Try.underlying58, by kernel_rfl⟩,
  ⟨Try.underlying70, by kernel_rfl⟩,
  ⟨Try.underlying72, by kernel_rfl⟩,
  ⟨Try.underlying75, by kernel_rfl⟩,
  ⟨Try.underlying80, by kernel_rfl⟩,
  ⟨Try.underlying83, by kernel_rfl⟩,
  ⟨Try.underlying91, by kernel_rfl⟩,
  ⟨Try.underlying94, by kernel_rfl⟩,
  ⟨Try.underlying96, by kernel_rfl⟩,
  ⟨Try.underlying107, by kernel_rfl⟩,
  ⟨Try.underlying110, by kernel_rfl⟩, trivial⟩
theorem mixed : Try.prog.follows .mixedOrders = true := by kernel_rfl
end Go.Proofs.Ytffimkpllchfcaa
