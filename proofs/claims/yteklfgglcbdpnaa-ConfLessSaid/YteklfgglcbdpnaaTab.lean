/-
  The types that the code names, in a table, and that the program has them so. Written by a program (mktab.py).
-/
import Derived.Test.YteklfgglcbdpnaaProg
import Derived.Test.YteklfgglcbdpnaaRule4
import Derived.KernelRfl
namespace Go.Proofs.Yteklfgglcbdpnaa

def TT : Tab := [
  (3, { und := .int .i64, size := 1, bytes := 8, zero := some (.int .i64 0) }),
  (4, { und := .bool, size := 1, bytes := 1, zero := some (.bool false) }),
  (5, { und := .int .u8, size := 1, bytes := 1, zero := some (.int .u8 0) }),
  (22, { und := .slice 3, size := 1, bytes := 24, zero := some (.slice none 0 0) }),
  (24, { und := .struct #[{ name := "Size", type := 3, offset := 0, embedded := false, tag := "", pkgPath := "", byteOffset := 0 }, { name := "Pages", type := 3, offset := 1, embedded := false, tag := "", pkgPath := "", byteOffset := 8 }, { name := "Classes", type := 22, offset := 2, embedded := false, tag := "", pkgPath := "", byteOffset := 16 }, { name := "Keep", type := 22, offset := 3, embedded := false, tag := "", pkgPath := "", byteOffset := 40 }, { name := "Step", type := 3, offset := 4, embedded := false, tag := "", pkgPath := "", byteOffset := 64 }, { name := "Slots", type := 3, offset := 5, embedded := false, tag := "", pkgPath := "", byteOffset := 72 }, { name := "Gens", type := 3, offset := 6, embedded := false, tag := "", pkgPath := "", byteOffset := 80 }, { name := "Most", type := 3, offset := 7, embedded := false, tag := "", pkgPath := "", byteOffset := 88 }], size := 8, bytes := 96, zero := some (.agg #[.int .i64 0, .int .i64 0, .slice none 0 0, .slice none 0 0, .int .i64 0, .int .i64 0, .int .i64 0, .int .i64 0]) }),
  (27, { und := .int .i64, size := 1, bytes := 8, zero := some (.int .i64 0) }),
  (38, { und := .array 8 4, size := 8, bytes := 8, zero := some (.agg #[.bool false, .bool false, .bool false, .bool false, .bool false, .bool false, .bool false, .bool false]) }),
  (40, { und := .slice 4, size := 1, bytes := 24, zero := some (.slice none 0 0) })]
theorem hTT : TabOk Try.prog TT := ⟨⟨Try.underlying3, by kernel_rfl⟩,
  ⟨Try.underlying4, by kernel_rfl⟩,
  ⟨Try.underlying5, by kernel_rfl⟩,
  ⟨Try.underlying22, by kernel_rfl⟩,
  ⟨Try.underlying24, by kernel_rfl⟩,
  ⟨Try.underlying27, by kernel_rfl⟩,
  ⟨Try.underlying38, by kernel_rfl⟩,
  ⟨Try.underlying40, by kernel_rfl⟩, trivial⟩
theorem mixed : Try.prog.follows .mixedOrders = true := by kernel_rfl
end Go.Proofs.Yteklfgglcbdpnaa
