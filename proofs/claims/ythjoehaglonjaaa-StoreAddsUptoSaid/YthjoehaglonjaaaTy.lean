/- The facts on the types (printed by tyfacts.py). -/
import Derived.Test.YthjoehaglonjaaaPvX
import Derived.Test.YthjoehaglonjaaaProg
import Derived.KernelRfl
set_option maxRecDepth 100000
namespace Go.Proofs.Ythjoehaglonjaaa
open Go.PV
theorem tyU : (Try.prog.underlying 3 = some (.int .i64)) ∧
  (Try.prog.underlying 4 = some (.bool)) ∧
  (Try.prog.underlying 5 = some (.int .u8)) ∧
  (Try.prog.underlying 9 = some (.string)) ∧
  (Try.prog.underlying 22 = some (.slice 5)) ∧
  (Try.prog.underlying 23 = some (.slice 32)) ∧
  (Try.prog.underlying 24 = some (.slice 58)) ∧
  (Try.prog.underlying 25 = some (.struct #[{ name := "Pieces", type := 23, offset := 0, embedded := false, tag := "", pkgPath := "", byteOffset := 0 }, { name := "Conflicts", type := 24, offset := 1, embedded := false, tag := "", pkgPath := "", byteOffset := 24 }])) ∧
  (Try.prog.underlying 26 = some (.struct #[{ name := "Pieces", type := 23, offset := 0, embedded := false, tag := "", pkgPath := "", byteOffset := 0 }, { name := "Conflicts", type := 24, offset := 1, embedded := false, tag := "", pkgPath := "", byteOffset := 24 }])) ∧
  (Try.prog.underlying 27 = some (.int .u64)) ∧
  (Try.prog.underlying 28 = some (.slice 66)) ∧
  (Try.prog.underlying 29 = some (.struct #[{ name := "Funcs", type := 28, offset := 0, embedded := false, tag := "", pkgPath := "", byteOffset := 0 }])) ∧
  (Try.prog.underlying 30 = some (.struct #[{ name := "Funcs", type := 28, offset := 0, embedded := false, tag := "", pkgPath := "", byteOffset := 0 }])) ∧
  (Try.prog.underlying 31 = some (.struct #[{ name := "Release", type := 3, offset := 0, embedded := false, tag := "", pkgPath := "", byteOffset := 0 }, { name := "Machine", type := 3, offset := 1, embedded := false, tag := "", pkgPath := "", byteOffset := 8 }, { name := "Number", type := 3, offset := 2, embedded := false, tag := "", pkgPath := "", byteOffset := 16 }, { name := "Digest", type := 27, offset := 3, embedded := false, tag := "", pkgPath := "", byteOffset := 24 }, { name := "Counts", type := 30, offset := 4, embedded := false, tag := "", pkgPath := "", byteOffset := 32 }])) ∧
  (Try.prog.underlying 32 = some (.struct #[{ name := "Release", type := 3, offset := 0, embedded := false, tag := "", pkgPath := "", byteOffset := 0 }, { name := "Machine", type := 3, offset := 1, embedded := false, tag := "", pkgPath := "", byteOffset := 8 }, { name := "Number", type := 3, offset := 2, embedded := false, tag := "", pkgPath := "", byteOffset := 16 }, { name := "Digest", type := 27, offset := 3, embedded := false, tag := "", pkgPath := "", byteOffset := 24 }, { name := "Counts", type := 30, offset := 4, embedded := false, tag := "", pkgPath := "", byteOffset := 32 }])) ∧
  (Try.prog.underlying 34 = some (.pointer 84)) ∧
  (Try.prog.underlying 40 = some (.slice 26)) ∧
  (Try.prog.underlying 42 = some (.int .i64)) ∧
  (Try.prog.underlying 48 = some (.array 2 26)) ∧
  (Try.prog.underlying 49 = some (.slice 48)) ∧
  (Try.prog.underlying 55 = some (.slice 3)) ∧
  (Try.prog.underlying 57 = some (.struct #[{ name := "Release", type := 3, offset := 0, embedded := false, tag := "", pkgPath := "", byteOffset := 0 }, { name := "Machine", type := 3, offset := 1, embedded := false, tag := "", pkgPath := "", byteOffset := 8 }, { name := "Number", type := 3, offset := 2, embedded := false, tag := "", pkgPath := "", byteOffset := 16 }])) ∧
  (Try.prog.underlying 58 = some (.struct #[{ name := "Release", type := 3, offset := 0, embedded := false, tag := "", pkgPath := "", byteOffset := 0 }, { name := "Machine", type := 3, offset := 1, embedded := false, tag := "", pkgPath := "", byteOffset := 8 }, { name := "Number", type := 3, offset := 2, embedded := false, tag := "", pkgPath := "", byteOffset := 16 }])) ∧
  (Try.prog.underlying 63 = some (.slice 80)) ∧
  (Try.prog.underlying 64 = some (.slice 91)) ∧
  (Try.prog.underlying 65 = some (.struct #[{ name := "Entries", type := 3, offset := 0, embedded := false, tag := "", pkgPath := "", byteOffset := 0 }, { name := "Blocks", type := 55, offset := 1, embedded := false, tag := "", pkgPath := "", byteOffset := 8 }, { name := "Edges", type := 63, offset := 2, embedded := false, tag := "", pkgPath := "", byteOffset := 32 }, { name := "Sites", type := 64, offset := 3, embedded := false, tag := "", pkgPath := "", byteOffset := 56 }])) ∧
  (Try.prog.underlying 66 = some (.struct #[{ name := "Entries", type := 3, offset := 0, embedded := false, tag := "", pkgPath := "", byteOffset := 0 }, { name := "Blocks", type := 55, offset := 1, embedded := false, tag := "", pkgPath := "", byteOffset := 8 }, { name := "Edges", type := 63, offset := 2, embedded := false, tag := "", pkgPath := "", byteOffset := 32 }, { name := "Sites", type := 64, offset := 3, embedded := false, tag := "", pkgPath := "", byteOffset := 56 }])) ∧
  (Try.prog.underlying 80 = some (.array 2 3)) ∧
  (Try.prog.underlying 83 = some (.struct #[{ name := "l", type := 22, offset := 0, embedded := false, tag := "", pkgPath := "warmpath/warmpathdraw", byteOffset := 0 }, { name := "at", type := 3, offset := 1, embedded := false, tag := "", pkgPath := "warmpath/warmpathdraw", byteOffset := 24 }])) ∧
  (Try.prog.underlying 84 = some (.struct #[{ name := "l", type := 22, offset := 0, embedded := false, tag := "", pkgPath := "warmpath/warmpathdraw", byteOffset := 0 }, { name := "at", type := 3, offset := 1, embedded := false, tag := "", pkgPath := "warmpath/warmpathdraw", byteOffset := 24 }])) ∧
  (Try.prog.underlying 87 = some (.struct #[{ name := "Func", type := 3, offset := 0, embedded := false, tag := "", pkgPath := "", byteOffset := 0 }, { name := "Count", type := 3, offset := 1, embedded := false, tag := "", pkgPath := "", byteOffset := 8 }])) ∧
  (Try.prog.underlying 88 = some (.struct #[{ name := "Func", type := 3, offset := 0, embedded := false, tag := "", pkgPath := "", byteOffset := 0 }, { name := "Count", type := 3, offset := 1, embedded := false, tag := "", pkgPath := "", byteOffset := 8 }])) ∧
  (Try.prog.underlying 89 = some (.slice 88)) ∧
  (Try.prog.underlying 90 = some (.struct #[{ name := "Block", type := 3, offset := 0, embedded := false, tag := "", pkgPath := "", byteOffset := 0 }, { name := "Instr", type := 3, offset := 1, embedded := false, tag := "", pkgPath := "", byteOffset := 8 }, { name := "Targets", type := 89, offset := 2, embedded := false, tag := "", pkgPath := "", byteOffset := 16 }])) ∧
  (Try.prog.underlying 91 = some (.struct #[{ name := "Block", type := 3, offset := 0, embedded := false, tag := "", pkgPath := "", byteOffset := 0 }, { name := "Instr", type := 3, offset := 1, embedded := false, tag := "", pkgPath := "", byteOffset := 8 }, { name := "Targets", type := 89, offset := 2, embedded := false, tag := "", pkgPath := "", byteOffset := 16 }])) ∧
  (Try.prog.underlying 158 = some (.slice 24)) ∧
  (Try.prog.underlying 162 = some (.int .u64)) ∧
  (Try.prog.underlying 164 = some (.pointer 66)) ∧
  (Try.prog.underlying 175 = some (.int .i64)) ∧
  (Try.prog.underlying 183 = some (.int .u32)) ∧
  (Try.prog.underlying 195 = some (.int .u64)) ∧
  (Try.prog.underlying 199 = some (.pointer 3)) ∧
  (Try.prog.underlying 203 = some (.pointer 195)) :=
  ⟨by kernel_rfl, by kernel_rfl, by kernel_rfl, by kernel_rfl, by kernel_rfl, by kernel_rfl, by kernel_rfl, by kernel_rfl, by kernel_rfl, by kernel_rfl, by kernel_rfl, by kernel_rfl, by kernel_rfl, by kernel_rfl, by kernel_rfl, by kernel_rfl, by kernel_rfl, by kernel_rfl, by kernel_rfl, by kernel_rfl, by kernel_rfl, by kernel_rfl, by kernel_rfl, by kernel_rfl, by kernel_rfl, by kernel_rfl, by kernel_rfl, by kernel_rfl, by kernel_rfl, by kernel_rfl, by kernel_rfl, by kernel_rfl, by kernel_rfl, by kernel_rfl, by kernel_rfl, by kernel_rfl, by kernel_rfl, by kernel_rfl, by kernel_rfl, by kernel_rfl, by kernel_rfl, by kernel_rfl, by kernel_rfl⟩
theorem tyC : (Try.prog.cellsOf 3 = 1) ∧
  (Try.prog.cellsOf 4 = 1) ∧
  (Try.prog.cellsOf 5 = 1) ∧
  (Try.prog.cellsOf 9 = 1) ∧
  (Try.prog.cellsOf 22 = 1) ∧
  (Try.prog.cellsOf 23 = 1) ∧
  (Try.prog.cellsOf 24 = 1) ∧
  (Try.prog.cellsOf 25 = 2) ∧
  (Try.prog.cellsOf 26 = 2) ∧
  (Try.prog.cellsOf 27 = 1) ∧
  (Try.prog.cellsOf 28 = 1) ∧
  (Try.prog.cellsOf 29 = 1) ∧
  (Try.prog.cellsOf 30 = 1) ∧
  (Try.prog.cellsOf 31 = 5) ∧
  (Try.prog.cellsOf 32 = 5) ∧
  (Try.prog.cellsOf 34 = 1) ∧
  (Try.prog.cellsOf 40 = 1) ∧
  (Try.prog.cellsOf 42 = 1) ∧
  (Try.prog.cellsOf 48 = 4) ∧
  (Try.prog.cellsOf 49 = 1) ∧
  (Try.prog.cellsOf 55 = 1) ∧
  (Try.prog.cellsOf 57 = 3) ∧
  (Try.prog.cellsOf 58 = 3) ∧
  (Try.prog.cellsOf 63 = 1) ∧
  (Try.prog.cellsOf 64 = 1) ∧
  (Try.prog.cellsOf 65 = 4) ∧
  (Try.prog.cellsOf 66 = 4) ∧
  (Try.prog.cellsOf 80 = 2) ∧
  (Try.prog.cellsOf 83 = 2) ∧
  (Try.prog.cellsOf 84 = 2) ∧
  (Try.prog.cellsOf 87 = 2) ∧
  (Try.prog.cellsOf 88 = 2) ∧
  (Try.prog.cellsOf 89 = 1) ∧
  (Try.prog.cellsOf 90 = 3) ∧
  (Try.prog.cellsOf 91 = 3) ∧
  (Try.prog.cellsOf 158 = 1) ∧
  (Try.prog.cellsOf 162 = 1) ∧
  (Try.prog.cellsOf 164 = 1) ∧
  (Try.prog.cellsOf 175 = 1) ∧
  (Try.prog.cellsOf 183 = 1) ∧
  (Try.prog.cellsOf 195 = 1) ∧
  (Try.prog.cellsOf 199 = 1) ∧
  (Try.prog.cellsOf 203 = 1) :=
  ⟨by kernel_rfl, by kernel_rfl, by kernel_rfl, by kernel_rfl, by kernel_rfl, by kernel_rfl, by kernel_rfl, by kernel_rfl, by kernel_rfl, by kernel_rfl, by kernel_rfl, by kernel_rfl, by kernel_rfl, by kernel_rfl, by kernel_rfl, by kernel_rfl, by kernel_rfl, by kernel_rfl, by kernel_rfl, by kernel_rfl, by kernel_rfl, by kernel_rfl, by kernel_rfl, by kernel_rfl, by kernel_rfl, by kernel_rfl, by kernel_rfl, by kernel_rfl, by kernel_rfl, by kernel_rfl, by kernel_rfl, by kernel_rfl, by kernel_rfl, by kernel_rfl, by kernel_rfl, by kernel_rfl, by kernel_rfl, by kernel_rfl, by kernel_rfl, by kernel_rfl, by kernel_rfl, by kernel_rfl, by kernel_rfl⟩
theorem tyB : (Try.prog.bytesOf 3 = 8) ∧
  (Try.prog.bytesOf 4 = 1) ∧
  (Try.prog.bytesOf 5 = 1) ∧
  (Try.prog.bytesOf 9 = 16) ∧
  (Try.prog.bytesOf 22 = 24) ∧
  (Try.prog.bytesOf 23 = 24) ∧
  (Try.prog.bytesOf 24 = 24) ∧
  (Try.prog.bytesOf 25 = 48) ∧
  (Try.prog.bytesOf 26 = 48) ∧
  (Try.prog.bytesOf 27 = 8) ∧
  (Try.prog.bytesOf 28 = 24) ∧
  (Try.prog.bytesOf 29 = 24) ∧
  (Try.prog.bytesOf 30 = 24) ∧
  (Try.prog.bytesOf 31 = 56) ∧
  (Try.prog.bytesOf 32 = 56) ∧
  (Try.prog.bytesOf 34 = 8) ∧
  (Try.prog.bytesOf 40 = 24) ∧
  (Try.prog.bytesOf 42 = 8) ∧
  (Try.prog.bytesOf 48 = 96) ∧
  (Try.prog.bytesOf 49 = 24) ∧
  (Try.prog.bytesOf 55 = 24) ∧
  (Try.prog.bytesOf 57 = 24) ∧
  (Try.prog.bytesOf 58 = 24) ∧
  (Try.prog.bytesOf 63 = 24) ∧
  (Try.prog.bytesOf 64 = 24) ∧
  (Try.prog.bytesOf 65 = 80) ∧
  (Try.prog.bytesOf 66 = 80) ∧
  (Try.prog.bytesOf 80 = 16) ∧
  (Try.prog.bytesOf 83 = 32) ∧
  (Try.prog.bytesOf 84 = 32) ∧
  (Try.prog.bytesOf 87 = 16) ∧
  (Try.prog.bytesOf 88 = 16) ∧
  (Try.prog.bytesOf 89 = 24) ∧
  (Try.prog.bytesOf 90 = 40) ∧
  (Try.prog.bytesOf 91 = 40) ∧
  (Try.prog.bytesOf 158 = 24) ∧
  (Try.prog.bytesOf 162 = 8) ∧
  (Try.prog.bytesOf 164 = 8) ∧
  (Try.prog.bytesOf 175 = 8) ∧
  (Try.prog.bytesOf 183 = 4) ∧
  (Try.prog.bytesOf 195 = 8) ∧
  (Try.prog.bytesOf 199 = 8) ∧
  (Try.prog.bytesOf 203 = 8) :=
  ⟨by kernel_rfl, by kernel_rfl, by kernel_rfl, by kernel_rfl, by kernel_rfl, by kernel_rfl, by kernel_rfl, by kernel_rfl, by kernel_rfl, by kernel_rfl, by kernel_rfl, by kernel_rfl, by kernel_rfl, by kernel_rfl, by kernel_rfl, by kernel_rfl, by kernel_rfl, by kernel_rfl, by kernel_rfl, by kernel_rfl, by kernel_rfl, by kernel_rfl, by kernel_rfl, by kernel_rfl, by kernel_rfl, by kernel_rfl, by kernel_rfl, by kernel_rfl, by kernel_rfl, by kernel_rfl, by kernel_rfl, by kernel_rfl, by kernel_rfl, by kernel_rfl, by kernel_rfl, by kernel_rfl, by kernel_rfl, by kernel_rfl, by kernel_rfl, by kernel_rfl, by kernel_rfl, by kernel_rfl, by kernel_rfl⟩
theorem tyA : (aggT Try.prog 3 = false) ∧
  (aggT Try.prog 4 = false) ∧
  (aggT Try.prog 5 = false) ∧
  (aggT Try.prog 9 = false) ∧
  (aggT Try.prog 22 = false) ∧
  (aggT Try.prog 23 = false) ∧
  (aggT Try.prog 24 = false) ∧
  (aggT Try.prog 25 = true) ∧
  (aggT Try.prog 26 = true) ∧
  (aggT Try.prog 27 = false) ∧
  (aggT Try.prog 28 = false) ∧
  (aggT Try.prog 29 = true) ∧
  (aggT Try.prog 30 = true) ∧
  (aggT Try.prog 31 = true) ∧
  (aggT Try.prog 32 = true) ∧
  (aggT Try.prog 34 = false) ∧
  (aggT Try.prog 40 = false) ∧
  (aggT Try.prog 42 = false) ∧
  (aggT Try.prog 48 = true) ∧
  (aggT Try.prog 49 = false) ∧
  (aggT Try.prog 55 = false) ∧
  (aggT Try.prog 57 = true) ∧
  (aggT Try.prog 58 = true) ∧
  (aggT Try.prog 63 = false) ∧
  (aggT Try.prog 64 = false) ∧
  (aggT Try.prog 65 = true) ∧
  (aggT Try.prog 66 = true) ∧
  (aggT Try.prog 80 = true) ∧
  (aggT Try.prog 83 = true) ∧
  (aggT Try.prog 84 = true) ∧
  (aggT Try.prog 87 = true) ∧
  (aggT Try.prog 88 = true) ∧
  (aggT Try.prog 89 = false) ∧
  (aggT Try.prog 90 = true) ∧
  (aggT Try.prog 91 = true) ∧
  (aggT Try.prog 158 = false) ∧
  (aggT Try.prog 162 = false) ∧
  (aggT Try.prog 164 = false) ∧
  (aggT Try.prog 175 = false) ∧
  (aggT Try.prog 183 = false) ∧
  (aggT Try.prog 195 = false) ∧
  (aggT Try.prog 199 = false) ∧
  (aggT Try.prog 203 = false) :=
  ⟨by kernel_rfl, by kernel_rfl, by kernel_rfl, by kernel_rfl, by kernel_rfl, by kernel_rfl, by kernel_rfl, by kernel_rfl, by kernel_rfl, by kernel_rfl, by kernel_rfl, by kernel_rfl, by kernel_rfl, by kernel_rfl, by kernel_rfl, by kernel_rfl, by kernel_rfl, by kernel_rfl, by kernel_rfl, by kernel_rfl, by kernel_rfl, by kernel_rfl, by kernel_rfl, by kernel_rfl, by kernel_rfl, by kernel_rfl, by kernel_rfl, by kernel_rfl, by kernel_rfl, by kernel_rfl, by kernel_rfl, by kernel_rfl, by kernel_rfl, by kernel_rfl, by kernel_rfl, by kernel_rfl, by kernel_rfl, by kernel_rfl, by kernel_rfl, by kernel_rfl, by kernel_rfl, by kernel_rfl, by kernel_rfl⟩
theorem tyI : (isIntT Try.prog 3 = some .i64) ∧
  (isIntT Try.prog 4 = none) ∧
  (isIntT Try.prog 5 = some .u8) ∧
  (isIntT Try.prog 9 = none) ∧
  (isIntT Try.prog 22 = none) ∧
  (isIntT Try.prog 23 = none) ∧
  (isIntT Try.prog 24 = none) ∧
  (isIntT Try.prog 25 = none) ∧
  (isIntT Try.prog 26 = none) ∧
  (isIntT Try.prog 27 = some .u64) ∧
  (isIntT Try.prog 28 = none) ∧
  (isIntT Try.prog 29 = none) ∧
  (isIntT Try.prog 30 = none) ∧
  (isIntT Try.prog 31 = none) ∧
  (isIntT Try.prog 32 = none) ∧
  (isIntT Try.prog 34 = none) ∧
  (isIntT Try.prog 40 = none) ∧
  (isIntT Try.prog 42 = some .i64) ∧
  (isIntT Try.prog 48 = none) ∧
  (isIntT Try.prog 49 = none) ∧
  (isIntT Try.prog 55 = none) ∧
  (isIntT Try.prog 57 = none) ∧
  (isIntT Try.prog 58 = none) ∧
  (isIntT Try.prog 63 = none) ∧
  (isIntT Try.prog 64 = none) ∧
  (isIntT Try.prog 65 = none) ∧
  (isIntT Try.prog 66 = none) ∧
  (isIntT Try.prog 80 = none) ∧
  (isIntT Try.prog 83 = none) ∧
  (isIntT Try.prog 84 = none) ∧
  (isIntT Try.prog 87 = none) ∧
  (isIntT Try.prog 88 = none) ∧
  (isIntT Try.prog 89 = none) ∧
  (isIntT Try.prog 90 = none) ∧
  (isIntT Try.prog 91 = none) ∧
  (isIntT Try.prog 158 = none) ∧
  (isIntT Try.prog 162 = some .u64) ∧
  (isIntT Try.prog 164 = none) ∧
  (isIntT Try.prog 175 = some .i64) ∧
  (isIntT Try.prog 183 = some .u32) ∧
  (isIntT Try.prog 195 = some .u64) ∧
  (isIntT Try.prog 199 = none) ∧
  (isIntT Try.prog 203 = none) :=
  ⟨by kernel_rfl, by kernel_rfl, by kernel_rfl, by kernel_rfl, by kernel_rfl, by kernel_rfl, by kernel_rfl, by kernel_rfl, by kernel_rfl, by kernel_rfl, by kernel_rfl, by kernel_rfl, by kernel_rfl, by kernel_rfl, by kernel_rfl, by kernel_rfl, by kernel_rfl, by kernel_rfl, by kernel_rfl, by kernel_rfl, by kernel_rfl, by kernel_rfl, by kernel_rfl, by kernel_rfl, by kernel_rfl, by kernel_rfl, by kernel_rfl, by kernel_rfl, by kernel_rfl, by kernel_rfl, by kernel_rfl, by kernel_rfl, by kernel_rfl, by kernel_rfl, by kernel_rfl, by kernel_rfl, by kernel_rfl, by kernel_rfl, by kernel_rfl, by kernel_rfl, by kernel_rfl, by kernel_rfl, by kernel_rfl⟩
theorem tyZ : (zeroCells Try.prog 3 = some [.int .i64 0]) ∧
  (zeroCells Try.prog 4 = some [.bool false]) ∧
  (zeroCells Try.prog 5 = some [.int .u8 0]) ∧
  (zeroCells Try.prog 9 = some [.str .empty]) ∧
  (zeroCells Try.prog 22 = some [.nils]) ∧
  (zeroCells Try.prog 23 = some [.nils]) ∧
  (zeroCells Try.prog 24 = some [.nils]) ∧
  (zeroCells Try.prog 25 = some [.nils, .nils]) ∧
  (zeroCells Try.prog 26 = some [.nils, .nils]) ∧
  (zeroCells Try.prog 27 = some [.int .u64 0]) ∧
  (zeroCells Try.prog 28 = some [.nils]) ∧
  (zeroCells Try.prog 29 = some [.nils]) ∧
  (zeroCells Try.prog 30 = some [.nils]) ∧
  (zeroCells Try.prog 31 = some [.int .i64 0, .int .i64 0, .int .i64 0, .int .u64 0, .nils]) ∧
  (zeroCells Try.prog 32 = some [.int .i64 0, .int .i64 0, .int .i64 0, .int .u64 0, .nils]) ∧
  (zeroCells Try.prog 34 = some [.nilp]) ∧
  (zeroCells Try.prog 40 = some [.nils]) ∧
  (zeroCells Try.prog 42 = some [.int .i64 0]) ∧
  (zeroCells Try.prog 48 = some [.nils, .nils, .nils, .nils]) ∧
  (zeroCells Try.prog 49 = some [.nils]) ∧
  (zeroCells Try.prog 55 = some [.nils]) ∧
  (zeroCells Try.prog 57 = some [.int .i64 0, .int .i64 0, .int .i64 0]) ∧
  (zeroCells Try.prog 58 = some [.int .i64 0, .int .i64 0, .int .i64 0]) ∧
  (zeroCells Try.prog 63 = some [.nils]) ∧
  (zeroCells Try.prog 64 = some [.nils]) ∧
  (zeroCells Try.prog 65 = some [.int .i64 0, .nils, .nils, .nils]) ∧
  (zeroCells Try.prog 66 = some [.int .i64 0, .nils, .nils, .nils]) ∧
  (zeroCells Try.prog 80 = some [.int .i64 0, .int .i64 0]) ∧
  (zeroCells Try.prog 83 = some [.nils, .int .i64 0]) ∧
  (zeroCells Try.prog 84 = some [.nils, .int .i64 0]) ∧
  (zeroCells Try.prog 87 = some [.int .i64 0, .int .i64 0]) ∧
  (zeroCells Try.prog 88 = some [.int .i64 0, .int .i64 0]) ∧
  (zeroCells Try.prog 89 = some [.nils]) ∧
  (zeroCells Try.prog 90 = some [.int .i64 0, .int .i64 0, .nils]) ∧
  (zeroCells Try.prog 91 = some [.int .i64 0, .int .i64 0, .nils]) ∧
  (zeroCells Try.prog 158 = some [.nils]) ∧
  (zeroCells Try.prog 162 = some [.int .u64 0]) ∧
  (zeroCells Try.prog 164 = some [.nilp]) ∧
  (zeroCells Try.prog 175 = some [.int .i64 0]) ∧
  (zeroCells Try.prog 183 = some [.int .u32 0]) ∧
  (zeroCells Try.prog 195 = some [.int .u64 0]) ∧
  (zeroCells Try.prog 199 = some [.nilp]) ∧
  (zeroCells Try.prog 203 = some [.nilp]) :=
  ⟨by kernel_rfl, by kernel_rfl, by kernel_rfl, by kernel_rfl, by kernel_rfl, by kernel_rfl, by kernel_rfl, by kernel_rfl, by kernel_rfl, by kernel_rfl, by kernel_rfl, by kernel_rfl, by kernel_rfl, by kernel_rfl, by kernel_rfl, by kernel_rfl, by kernel_rfl, by kernel_rfl, by kernel_rfl, by kernel_rfl, by kernel_rfl, by kernel_rfl, by kernel_rfl, by kernel_rfl, by kernel_rfl, by kernel_rfl, by kernel_rfl, by kernel_rfl, by kernel_rfl, by kernel_rfl, by kernel_rfl, by kernel_rfl, by kernel_rfl, by kernel_rfl, by kernel_rfl, by kernel_rfl, by kernel_rfl, by kernel_rfl, by kernel_rfl, by kernel_rfl, by kernel_rfl, by kernel_rfl, by kernel_rfl⟩
theorem tyF : ((#[{ name := "Pieces", type := 23, offset := 0, embedded := false, tag := "", pkgPath := "", byteOffset := 0 }, { name := "Conflicts", type := 24, offset := 1, embedded := false, tag := "", pkgPath := "", byteOffset := 24 }] : Array Field).all (fun f => (Try.prog.info? f.type).isSome) = true) ∧
  ((#[{ name := "Funcs", type := 28, offset := 0, embedded := false, tag := "", pkgPath := "", byteOffset := 0 }] : Array Field).all (fun f => (Try.prog.info? f.type).isSome) = true) ∧
  ((#[{ name := "Release", type := 3, offset := 0, embedded := false, tag := "", pkgPath := "", byteOffset := 0 }, { name := "Machine", type := 3, offset := 1, embedded := false, tag := "", pkgPath := "", byteOffset := 8 }, { name := "Number", type := 3, offset := 2, embedded := false, tag := "", pkgPath := "", byteOffset := 16 }, { name := "Digest", type := 27, offset := 3, embedded := false, tag := "", pkgPath := "", byteOffset := 24 }, { name := "Counts", type := 30, offset := 4, embedded := false, tag := "", pkgPath := "", byteOffset := 32 }] : Array Field).all (fun f => (Try.prog.info? f.type).isSome) = true) ∧
  ((#[{ name := "Release", type := 3, offset := 0, embedded := false, tag := "", pkgPath := "", byteOffset := 0 }, { name := "Machine", type := 3, offset := 1, embedded := false, tag := "", pkgPath := "", byteOffset := 8 }, { name := "Number", type := 3, offset := 2, embedded := false, tag := "", pkgPath := "", byteOffset := 16 }] : Array Field).all (fun f => (Try.prog.info? f.type).isSome) = true) ∧
  ((#[{ name := "Entries", type := 3, offset := 0, embedded := false, tag := "", pkgPath := "", byteOffset := 0 }, { name := "Blocks", type := 55, offset := 1, embedded := false, tag := "", pkgPath := "", byteOffset := 8 }, { name := "Edges", type := 63, offset := 2, embedded := false, tag := "", pkgPath := "", byteOffset := 32 }, { name := "Sites", type := 64, offset := 3, embedded := false, tag := "", pkgPath := "", byteOffset := 56 }] : Array Field).all (fun f => (Try.prog.info? f.type).isSome) = true) ∧
  ((#[{ name := "l", type := 22, offset := 0, embedded := false, tag := "", pkgPath := "warmpath/warmpathdraw", byteOffset := 0 }, { name := "at", type := 3, offset := 1, embedded := false, tag := "", pkgPath := "warmpath/warmpathdraw", byteOffset := 24 }] : Array Field).all (fun f => (Try.prog.info? f.type).isSome) = true) ∧
  ((#[{ name := "Func", type := 3, offset := 0, embedded := false, tag := "", pkgPath := "", byteOffset := 0 }, { name := "Count", type := 3, offset := 1, embedded := false, tag := "", pkgPath := "", byteOffset := 8 }] : Array Field).all (fun f => (Try.prog.info? f.type).isSome) = true) ∧
  ((#[{ name := "Block", type := 3, offset := 0, embedded := false, tag := "", pkgPath := "", byteOffset := 0 }, { name := "Instr", type := 3, offset := 1, embedded := false, tag := "", pkgPath := "", byteOffset := 8 }, { name := "Targets", type := 89, offset := 2, embedded := false, tag := "", pkgPath := "", byteOffset := 16 }] : Array Field).all (fun f => (Try.prog.info? f.type).isSome) = true) :=
  ⟨by kernel_rfl, by kernel_rfl, by kernel_rfl, by kernel_rfl, by kernel_rfl, by kernel_rfl, by kernel_rfl, by kernel_rfl⟩
theorem tyP : (True) :=
  trivial
end Go.Proofs.Ythjoehaglonjaaa
