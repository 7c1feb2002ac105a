/- The facts on the types (printed by tyfacts.py). -/
import Derived.Test.YthginmfobikdgaaPvX
import Derived.Test.YthginmfobikdgaaProg
import Derived.KernelRfl
set_option maxRecDepth 100000
namespace Go.Proofs.Ythginmfobikdgaa
open Go.PV
theorem tyU : (Try.prog.underlying 3 = some (.int .i64)) ∧
  (Try.prog.underlying 4 = some (.bool)) ∧
  (Try.prog.underlying 5 = some (.int .u8)) ∧
  (Try.prog.underlying 9 = some (.string)) ∧
  (Try.prog.underlying 22 = some (.slice 5)) ∧
  (Try.prog.underlying 25 = some (.int .u64)) ∧
  (Try.prog.underlying 28 = some (.slice 40)) ∧
  (Try.prog.underlying 30 = some (.pointer 101)) ∧
  (Try.prog.underlying 32 = some (.slice 243)) ∧
  (Try.prog.underlying 33 = some (.slice 113)) ∧
  (Try.prog.underlying 34 = some (.struct #[{ name := "Globals", type := 32, offset := 0, embedded := false, tag := "", pkgPath := "", byteOffset := 0 }, { name := "Funcs", type := 33, offset := 1, embedded := false, tag := "", pkgPath := "", byteOffset := 24 }, { name := "Callable", type := 3, offset := 2, embedded := false, tag := "", pkgPath := "", byteOffset := 48 }, { name := "Counters", type := 3, offset := 3, embedded := false, tag := "", pkgPath := "", byteOffset := 56 }])) ∧
  (Try.prog.underlying 35 = some (.struct #[{ name := "Globals", type := 32, offset := 0, embedded := false, tag := "", pkgPath := "", byteOffset := 0 }, { name := "Funcs", type := 33, offset := 1, embedded := false, tag := "", pkgPath := "", byteOffset := 24 }, { name := "Callable", type := 3, offset := 2, embedded := false, tag := "", pkgPath := "", byteOffset := 48 }, { name := "Counters", type := 3, offset := 3, embedded := false, tag := "", pkgPath := "", byteOffset := 56 }])) ∧
  (Try.prog.underlying 38 = some (.slice 4)) ∧
  (Try.prog.underlying 40 = some (.slice 3)) ∧
  (Try.prog.underlying 74 = some (.slice 78)) ∧
  (Try.prog.underlying 75 = some (.struct #[{ name := "Entries", type := 40, offset := 0, embedded := false, tag := "", pkgPath := "", byteOffset := 0 }, { name := "Calls", type := 74, offset := 1, embedded := false, tag := "", pkgPath := "", byteOffset := 24 }])) ∧
  (Try.prog.underlying 76 = some (.struct #[{ name := "Entries", type := 40, offset := 0, embedded := false, tag := "", pkgPath := "", byteOffset := 0 }, { name := "Calls", type := 74, offset := 1, embedded := false, tag := "", pkgPath := "", byteOffset := 24 }])) ∧
  (Try.prog.underlying 77 = some (.struct #[{ name := "Func", type := 3, offset := 0, embedded := false, tag := "", pkgPath := "", byteOffset := 0 }, { name := "Block", type := 3, offset := 1, embedded := false, tag := "", pkgPath := "", byteOffset := 8 }, { name := "Instr", type := 3, offset := 2, embedded := false, tag := "", pkgPath := "", byteOffset := 16 }, { name := "Callee", type := 3, offset := 3, embedded := false, tag := "", pkgPath := "", byteOffset := 24 }, { name := "Count", type := 3, offset := 4, embedded := false, tag := "", pkgPath := "", byteOffset := 32 }])) ∧
  (Try.prog.underlying 78 = some (.struct #[{ name := "Func", type := 3, offset := 0, embedded := false, tag := "", pkgPath := "", byteOffset := 0 }, { name := "Block", type := 3, offset := 1, embedded := false, tag := "", pkgPath := "", byteOffset := 8 }, { name := "Instr", type := 3, offset := 2, embedded := false, tag := "", pkgPath := "", byteOffset := 16 }, { name := "Callee", type := 3, offset := 3, embedded := false, tag := "", pkgPath := "", byteOffset := 24 }, { name := "Count", type := 3, offset := 4, embedded := false, tag := "", pkgPath := "", byteOffset := 32 }])) ∧
  (Try.prog.underlying 79 = some (.slice 76)) ∧
  (Try.prog.underlying 100 = some (.struct #[{ name := "l", type := 22, offset := 0, embedded := false, tag := "", pkgPath := "warmpath/warmpathdraw", byteOffset := 0 }, { name := "at", type := 3, offset := 1, embedded := false, tag := "", pkgPath := "warmpath/warmpathdraw", byteOffset := 24 }])) ∧
  (Try.prog.underlying 101 = some (.struct #[{ name := "l", type := 22, offset := 0, embedded := false, tag := "", pkgPath := "warmpath/warmpathdraw", byteOffset := 0 }, { name := "at", type := 3, offset := 1, embedded := false, tag := "", pkgPath := "warmpath/warmpathdraw", byteOffset := 24 }])) ∧
  (Try.prog.underlying 102 = some (.struct #[{ name := "Kind", type := 3, offset := 0, embedded := false, tag := "", pkgPath := "", byteOffset := 0 }, { name := "A", type := 3, offset := 1, embedded := false, tag := "", pkgPath := "", byteOffset := 8 }, { name := "To", type := 3, offset := 2, embedded := false, tag := "", pkgPath := "", byteOffset := 16 }, { name := "Else", type := 3, offset := 3, embedded := false, tag := "", pkgPath := "", byteOffset := 24 }])) ∧
  (Try.prog.underlying 103 = some (.struct #[{ name := "Kind", type := 3, offset := 0, embedded := false, tag := "", pkgPath := "", byteOffset := 0 }, { name := "A", type := 3, offset := 1, embedded := false, tag := "", pkgPath := "", byteOffset := 8 }, { name := "To", type := 3, offset := 2, embedded := false, tag := "", pkgPath := "", byteOffset := 16 }, { name := "Else", type := 3, offset := 3, embedded := false, tag := "", pkgPath := "", byteOffset := 24 }])) ∧
  (Try.prog.underlying 104 = some (.slice 110)) ∧
  (Try.prog.underlying 105 = some (.struct #[{ name := "Func", type := 3, offset := 0, embedded := false, tag := "", pkgPath := "", byteOffset := 0 }, { name := "Block", type := 3, offset := 1, embedded := false, tag := "", pkgPath := "", byteOffset := 8 }])) ∧
  (Try.prog.underlying 106 = some (.struct #[{ name := "Func", type := 3, offset := 0, embedded := false, tag := "", pkgPath := "", byteOffset := 0 }, { name := "Block", type := 3, offset := 1, embedded := false, tag := "", pkgPath := "", byteOffset := 8 }])) ∧
  (Try.prog.underlying 107 = some (.struct #[{ name := "Instrs", type := 104, offset := 0, embedded := false, tag := "", pkgPath := "", byteOffset := 0 }, { name := "Term", type := 103, offset := 1, embedded := false, tag := "", pkgPath := "", byteOffset := 24 }, { name := "Line", type := 3, offset := 5, embedded := false, tag := "", pkgPath := "", byteOffset := 56 }, { name := "Origin", type := 106, offset := 6, embedded := false, tag := "", pkgPath := "", byteOffset := 64 }])) ∧
  (Try.prog.underlying 108 = some (.struct #[{ name := "Instrs", type := 104, offset := 0, embedded := false, tag := "", pkgPath := "", byteOffset := 0 }, { name := "Term", type := 103, offset := 1, embedded := false, tag := "", pkgPath := "", byteOffset := 24 }, { name := "Line", type := 3, offset := 5, embedded := false, tag := "", pkgPath := "", byteOffset := 56 }, { name := "Origin", type := 106, offset := 6, embedded := false, tag := "", pkgPath := "", byteOffset := 64 }])) ∧
  (Try.prog.underlying 109 = some (.struct #[{ name := "Kind", type := 3, offset := 0, embedded := false, tag := "", pkgPath := "", byteOffset := 0 }, { name := "Op", type := 3, offset := 1, embedded := false, tag := "", pkgPath := "", byteOffset := 8 }, { name := "Dst", type := 3, offset := 2, embedded := false, tag := "", pkgPath := "", byteOffset := 16 }, { name := "A", type := 3, offset := 3, embedded := false, tag := "", pkgPath := "", byteOffset := 24 }, { name := "B", type := 3, offset := 4, embedded := false, tag := "", pkgPath := "", byteOffset := 32 }, { name := "Value", type := 3, offset := 5, embedded := false, tag := "", pkgPath := "", byteOffset := 40 }, { name := "Args", type := 40, offset := 6, embedded := false, tag := "", pkgPath := "", byteOffset := 48 }])) ∧
  (Try.prog.underlying 110 = some (.struct #[{ name := "Kind", type := 3, offset := 0, embedded := false, tag := "", pkgPath := "", byteOffset := 0 }, { name := "Op", type := 3, offset := 1, embedded := false, tag := "", pkgPath := "", byteOffset := 8 }, { name := "Dst", type := 3, offset := 2, embedded := false, tag := "", pkgPath := "", byteOffset := 16 }, { name := "A", type := 3, offset := 3, embedded := false, tag := "", pkgPath := "", byteOffset := 24 }, { name := "B", type := 3, offset := 4, embedded := false, tag := "", pkgPath := "", byteOffset := 32 }, { name := "Value", type := 3, offset := 5, embedded := false, tag := "", pkgPath := "", byteOffset := 40 }, { name := "Args", type := 40, offset := 6, embedded := false, tag := "", pkgPath := "", byteOffset := 48 }])) ∧
  (Try.prog.underlying 111 = some (.slice 108)) ∧
  (Try.prog.underlying 112 = some (.struct #[{ name := "Name", type := 9, offset := 0, embedded := false, tag := "", pkgPath := "", byteOffset := 0 }, { name := "Params", type := 3, offset := 1, embedded := false, tag := "", pkgPath := "", byteOffset := 16 }, { name := "Regs", type := 3, offset := 2, embedded := false, tag := "", pkgPath := "", byteOffset := 24 }, { name := "Blocks", type := 111, offset := 3, embedded := false, tag := "", pkgPath := "", byteOffset := 32 }])) ∧
  (Try.prog.underlying 113 = some (.struct #[{ name := "Name", type := 9, offset := 0, embedded := false, tag := "", pkgPath := "", byteOffset := 0 }, { name := "Params", type := 3, offset := 1, embedded := false, tag := "", pkgPath := "", byteOffset := 16 }, { name := "Regs", type := 3, offset := 2, embedded := false, tag := "", pkgPath := "", byteOffset := 24 }, { name := "Blocks", type := 111, offset := 3, embedded := false, tag := "", pkgPath := "", byteOffset := 32 }])) ∧
  (Try.prog.underlying 114 = some (.pointer 117)) ∧
  (Try.prog.underlying 116 = some (.struct #[{ name := "calls", type := 28, offset := 0, embedded := false, tag := "", pkgPath := "warmpath/callgraph", byteOffset := 0 }, { name := "number", type := 40, offset := 1, embedded := false, tag := "", pkgPath := "warmpath/callgraph", byteOffset := 24 }, { name := "low", type := 40, offset := 2, embedded := false, tag := "", pkgPath := "warmpath/callgraph", byteOffset := 48 }, { name := "set", type := 40, offset := 3, embedded := false, tag := "", pkgPath := "warmpath/callgraph", byteOffset := 72 }, { name := "stack", type := 40, offset := 4, embedded := false, tag := "", pkgPath := "warmpath/callgraph", byteOffset := 96 }, { name := "found", type := 3, offset := 5, embedded := false, tag := "", pkgPath := "warmpath/callgraph", byteOffset := 120 }, { name := "sets", type := 28, offset := 6, embedded := false, tag := "", pkgPath := "warmpath/callgraph", byteOffset := 128 }])) ∧
  (Try.prog.underlying 117 = some (.struct #[{ name := "calls", type := 28, offset := 0, embedded := false, tag := "", pkgPath := "warmpath/callgraph", byteOffset := 0 }, { name := "number", type := 40, offset := 1, embedded := false, tag := "", pkgPath := "warmpath/callgraph", byteOffset := 24 }, { name := "low", type := 40, offset := 2, embedded := false, tag := "", pkgPath := "warmpath/callgraph", byteOffset := 48 }, { name := "set", type := 40, offset := 3, embedded := false, tag := "", pkgPath := "warmpath/callgraph", byteOffset := 72 }, { name := "stack", type := 40, offset := 4, embedded := false, tag := "", pkgPath := "warmpath/callgraph", byteOffset := 96 }, { name := "found", type := 3, offset := 5, embedded := false, tag := "", pkgPath := "warmpath/callgraph", byteOffset := 120 }, { name := "sets", type := 28, offset := 6, embedded := false, tag := "", pkgPath := "warmpath/callgraph", byteOffset := 128 }])) ∧
  (Try.prog.underlying 186 = some (.int .u64)) ∧
  (Try.prog.underlying 192 = some (.int .i64)) ∧
  (Try.prog.underlying 201 = some (.int .u32)) ∧
  (Try.prog.underlying 213 = some (.int .u64)) ∧
  (Try.prog.underlying 217 = some (.pointer 3)) ∧
  (Try.prog.underlying 223 = some (.pointer 213)) ∧
  (Try.prog.underlying 242 = some (.struct #[{ name := "Name", type := 9, offset := 0, embedded := false, tag := "", pkgPath := "", byteOffset := 0 }, { name := "Size", type := 3, offset := 1, embedded := false, tag := "", pkgPath := "", byteOffset := 16 }])) ∧
  (Try.prog.underlying 243 = some (.struct #[{ name := "Name", type := 9, offset := 0, embedded := false, tag := "", pkgPath := "", byteOffset := 0 }, { name := "Size", type := 3, offset := 1, embedded := false, tag := "", pkgPath := "", byteOffset := 16 }])) :=
  ⟨by kernel_rfl, by kernel_rfl, by kernel_rfl, by kernel_rfl, by kernel_rfl, by kernel_rfl, by kernel_rfl, by kernel_rfl, by kernel_rfl, by kernel_rfl, by kernel_rfl, by kernel_rfl, by kernel_rfl, by kernel_rfl, by kernel_rfl, by kernel_rfl, by kernel_rfl, by kernel_rfl, by kernel_rfl, by kernel_rfl, by kernel_rfl, by kernel_rfl, by kernel_rfl, by kernel_rfl, by kernel_rfl, by kernel_rfl, by kernel_rfl, by kernel_rfl, by kernel_rfl, by kernel_rfl, by kernel_rfl, by kernel_rfl, by kernel_rfl, by kernel_rfl, by kernel_rfl, by kernel_rfl, by kernel_rfl, by kernel_rfl, by kernel_rfl, by kernel_rfl, by kernel_rfl, by kernel_rfl, by kernel_rfl, by kernel_rfl, by kernel_rfl⟩
theorem tyC : (Try.prog.cellsOf 3 = 1) ∧
  (Try.prog.cellsOf 4 = 1) ∧
  (Try.prog.cellsOf 5 = 1) ∧
  (Try.prog.cellsOf 9 = 1) ∧
  (Try.prog.cellsOf 22 = 1) ∧
  (Try.prog.cellsOf 25 = 1) ∧
  (Try.prog.cellsOf 28 = 1) ∧
  (Try.prog.cellsOf 30 = 1) ∧
  (Try.prog.cellsOf 32 = 1) ∧
  (Try.prog.cellsOf 33 = 1) ∧
  (Try.prog.cellsOf 34 = 4) ∧
  (Try.prog.cellsOf 35 = 4) ∧
  (Try.prog.cellsOf 38 = 1) ∧
  (Try.prog.cellsOf 40 = 1) ∧
  (Try.prog.cellsOf 74 = 1) ∧
  (Try.prog.cellsOf 75 = 2) ∧
  (Try.prog.cellsOf 76 = 2) ∧
  (Try.prog.cellsOf 77 = 5) ∧
  (Try.prog.cellsOf 78 = 5) ∧
  (Try.prog.cellsOf 79 = 1) ∧
  (Try.prog.cellsOf 100 = 2) ∧
  (Try.prog.cellsOf 101 = 2) ∧
  (Try.prog.cellsOf 102 = 4) ∧
  (Try.prog.cellsOf 103 = 4) ∧
  (Try.prog.cellsOf 104 = 1) ∧
  (Try.prog.cellsOf 105 = 2) ∧
  (Try.prog.cellsOf 106 = 2) ∧
  (Try.prog.cellsOf 107 = 8) ∧
  (Try.prog.cellsOf 108 = 8) ∧
  (Try.prog.cellsOf 109 = 7) ∧
  (Try.prog.cellsOf 110 = 7) ∧
  (Try.prog.cellsOf 111 = 1) ∧
  (Try.prog.cellsOf 112 = 4) ∧
  (Try.prog.cellsOf 113 = 4) ∧
  (Try.prog.cellsOf 114 = 1) ∧
  (Try.prog.cellsOf 116 = 7) ∧
  (Try.prog.cellsOf 117 = 7) ∧
  (Try.prog.cellsOf 186 = 1) ∧
  (Try.prog.cellsOf 192 = 1) ∧
  (Try.prog.cellsOf 201 = 1) ∧
  (Try.prog.cellsOf 213 = 1) ∧
  (Try.prog.cellsOf 217 = 1) ∧
  (Try.prog.cellsOf 223 = 1) ∧
  (Try.prog.cellsOf 242 = 2) ∧
  (Try.prog.cellsOf 243 = 2) :=
  ⟨by kernel_rfl, by kernel_rfl, by kernel_rfl, by kernel_rfl, by kernel_rfl, by kernel_rfl, by kernel_rfl, by kernel_rfl, by kernel_rfl, by kernel_rfl, by kernel_rfl, by kernel_rfl, by kernel_rfl, by kernel_rfl, by kernel_rfl, by kernel_rfl, by kernel_rfl, by kernel_rfl, by kernel_rfl, by kernel_rfl, by kernel_rfl, by kernel_rfl, by kernel_rfl, by kernel_rfl, by kernel_rfl, by kernel_rfl, by kernel_rfl, by kernel_rfl, by kernel_rfl, by kernel_rfl, by kernel_rfl, by kernel_rfl, by kernel_rfl, by kernel_rfl, by kernel_rfl, by kernel_rfl, by kernel_rfl, by kernel_rfl, by kernel_rfl, by kernel_rfl, by kernel_rfl, by kernel_rfl, by kernel_rfl, by kernel_rfl, by kernel_rfl⟩
theorem tyB : (Try.prog.bytesOf 3 = 8) ∧
  (Try.prog.bytesOf 4 = 1) ∧
  (Try.prog.bytesOf 5 = 1) ∧
  (Try.prog.bytesOf 9 = 16) ∧
  (Try.prog.bytesOf 22 = 24) ∧
  (Try.prog.bytesOf 25 = 8) ∧
  (Try.prog.bytesOf 28 = 24) ∧
  (Try.prog.bytesOf 30 = 8) ∧
  (Try.prog.bytesOf 32 = 24) ∧
  (Try.prog.bytesOf 33 = 24) ∧
  (Try.prog.bytesOf 34 = 64) ∧
  (Try.prog.bytesOf 35 = 64) ∧
  (Try.prog.bytesOf 38 = 24) ∧
  (Try.prog.bytesOf 40 = 24) ∧
  (Try.prog.bytesOf 74 = 24) ∧
  (Try.prog.bytesOf 75 = 48) ∧
  (Try.prog.bytesOf 76 = 48) ∧
  (Try.prog.bytesOf 77 = 40) ∧
  (Try.prog.bytesOf 78 = 40) ∧
  (Try.prog.bytesOf 79 = 24) ∧
  (Try.prog.bytesOf 100 = 32) ∧
  (Try.prog.bytesOf 101 = 32) ∧
  (Try.prog.bytesOf 102 = 32) ∧
  (Try.prog.bytesOf 103 = 32) ∧
  (Try.prog.bytesOf 104 = 24) ∧
  (Try.prog.bytesOf 105 = 16) ∧
  (Try.prog.bytesOf 106 = 16) ∧
  (Try.prog.bytesOf 107 = 80) ∧
  (Try.prog.bytesOf 108 = 80) ∧
  (Try.prog.bytesOf 109 = 72) ∧
  (Try.prog.bytesOf 110 = 72) ∧
  (Try.prog.bytesOf 111 = 24) ∧
  (Try.prog.bytesOf 112 = 56) ∧
  (Try.prog.bytesOf 113 = 56) ∧
  (Try.prog.bytesOf 114 = 8) ∧
  (Try.prog.bytesOf 116 = 152) ∧
  (Try.prog.bytesOf 117 = 152) ∧
  (Try.prog.bytesOf 186 = 8) ∧
  (Try.prog.bytesOf 192 = 8) ∧
  (Try.prog.bytesOf 201 = 4) ∧
  (Try.prog.bytesOf 213 = 8) ∧
  (Try.prog.bytesOf 217 = 8) ∧
  (Try.prog.bytesOf 223 = 8) ∧
  (Try.prog.bytesOf 242 = 24) ∧
  (Try.prog.bytesOf 243 = 24) :=
  ⟨by kernel_rfl, by kernel_rfl, by kernel_rfl, by kernel_rfl, by kernel_rfl, by kernel_rfl, by kernel_rfl, by kernel_rfl, by kernel_rfl, by kernel_rfl, by kernel_rfl, by kernel_rfl, by kernel_rfl, by kernel_rfl, by kernel_rfl, by kernel_rfl, by kernel_rfl, by kernel_rfl, by kernel_rfl, by kernel_rfl, by kernel_rfl, by kernel_rfl, by kernel_rfl, by kernel_rfl, by kernel_rfl, by kernel_rfl, by kernel_rfl, by kernel_rfl, by kernel_rfl, by kernel_rfl, by kernel_rfl, by kernel_rfl, by kernel_rfl, by kernel_rfl, by kernel_rfl, by kernel_rfl, by kernel_rfl, by kernel_rfl, by kernel_rfl, by kernel_rfl, by kernel_rfl, by kernel_rfl, by kernel_rfl, by kernel_rfl, by kernel_rfl⟩
theorem tyA : (aggT Try.prog 3 = false) ∧
  (aggT Try.prog 4 = false) ∧
  (aggT Try.prog 5 = false) ∧
  (aggT Try.prog 9 = false) ∧
  (aggT Try.prog 22 = false) ∧
  (aggT Try.prog 25 = false) ∧
  (aggT Try.prog 28 = false) ∧
  (aggT Try.prog 30 = false) ∧
  (aggT Try.prog 32 = false) ∧
  (aggT Try.prog 33 = false) ∧
  (aggT Try.prog 34 = true) ∧
  (aggT Try.prog 35 = true) ∧
  (aggT Try.prog 38 = false) ∧
  (aggT Try.prog 40 = false) ∧
  (aggT Try.prog 74 = false) ∧
  (aggT Try.prog 75 = true) ∧
  (aggT Try.prog 76 = true) ∧
  (aggT Try.prog 77 = true) ∧
  (aggT Try.prog 78 = true) ∧
  (aggT Try.prog 79 = false) ∧
  (aggT Try.prog 100 = true) ∧
  (aggT Try.prog 101 = true) ∧
  (aggT Try.prog 102 = true) ∧
  (aggT Try.prog 103 = true) ∧
  (aggT Try.prog 104 = false) ∧
  (aggT Try.prog 105 = true) ∧
  (aggT Try.prog 106 = true) ∧
  (aggT Try.prog 107 = true) ∧
  (aggT Try.prog 108 = true) ∧
  (aggT Try.prog 109 = true) ∧
  (aggT Try.prog 110 = true) ∧
  (aggT Try.prog 111 = false) ∧
  (aggT Try.prog 112 = true) ∧
  (aggT Try.prog 113 = true) ∧
  (aggT Try.prog 114 = false) ∧
  (aggT Try.prog 116 = true) ∧
  (aggT Try.prog 117 = true) ∧
  (aggT Try.prog 186 = false) ∧
  (aggT Try.prog 192 = false) ∧
  (aggT Try.prog 201 = false) ∧
  (aggT Try.prog 213 = false) ∧
  (aggT Try.prog 217 = false) ∧
  (aggT Try.prog 223 = false) ∧
  (aggT Try.prog 242 = true) ∧
  (aggT Try.prog 243 = true) :=
  ⟨by kernel_rfl, by kernel_rfl, by kernel_rfl, by kernel_rfl, by kernel_rfl, by kernel_rfl, by kernel_rfl, by kernel_rfl, by kernel_rfl, by kernel_rfl, by kernel_rfl, by kernel_rfl, by kernel_rfl, by kernel_rfl, by kernel_rfl, by kernel_rfl, by kernel_rfl, by kernel_rfl, by kernel_rfl, by kernel_rfl, by kernel_rfl, by kernel_rfl, by kernel_rfl, by kernel_rfl, by kernel_rfl, by kernel_rfl, by kernel_rfl, by kernel_rfl, by kernel_rfl, by kernel_rfl, by kernel_rfl, by kernel_rfl, by kernel_rfl, by kernel_rfl, by kernel_rfl, by kernel_rfl, by kernel_rfl, by kernel_rfl, by kernel_rfl, by kernel_rfl, by kernel_rfl, by kernel_rfl, by kernel_rfl, by kernel_rfl, by kernel_rfl⟩
theorem tyI : (isIntT Try.prog 3 = some .i64) ∧
  (isIntT Try.prog 4 = none) ∧
  (isIntT Try.prog 5 = some .u8) ∧
  (isIntT Try.prog 9 = none) ∧
  (isIntT Try.prog 22 = none) ∧
  (isIntT Try.prog 25 = some .u64) ∧
  (isIntT Try.prog 28 = none) ∧
  (isIntT Try.prog 30 = none) ∧
  (isIntT Try.prog 32 = none) ∧
  (isIntT Try.prog 33 = none) ∧
  (isIntT Try.prog 34 = none) ∧
  (isIntT Try.prog 35 = none) ∧
  (isIntT Try.prog 38 = none) ∧
  (isIntT Try.prog 40 = none) ∧
  (isIntT Try.prog 74 = none) ∧
  (isIntT Try.prog 75 = none) ∧
  (isIntT Try.prog 76 = none) ∧
  (isIntT Try.prog 77 = none) ∧
  (isIntT Try.prog 78 = none) ∧
  (isIntT Try.prog 79 = none) ∧
  (isIntT Try.prog 100 = none) ∧
  (isIntT Try.prog 101 = none) ∧
  (isIntT Try.prog 102 = none) ∧
  (isIntT Try.prog 103 = none) ∧
  (isIntT Try.prog 104 = none) ∧
  (isIntT Try.prog 105 = none) ∧
  (isIntT Try.prog 106 = none) ∧
  (isIntT Try.prog 107 = none) ∧
  (isIntT Try.prog 108 = none) ∧
  (isIntT Try.prog 109 = none) ∧
  (isIntT Try.prog 110 = none) ∧
  (isIntT Try.prog 111 = none) ∧
  (isIntT Try.prog 112 = none) ∧
  (isIntT Try.prog 113 = none) ∧
  (isIntT Try.prog 114 = none) ∧
  (isIntT Try.prog 116 = none) ∧
  (isIntT Try.prog 117 = none) ∧
  (isIntT Try.prog 186 = some .u64) ∧
  (isIntT Try.prog 192 = some .i64) ∧
  (isIntT Try.prog 201 = some .u32) ∧
  (isIntT Try.prog 213 = some .u64) ∧
  (isIntT Try.prog 217 = none) ∧
  (isIntT Try.prog 223 = none) ∧
  (isIntT Try.prog 242 = none) ∧
  (isIntT Try.prog 243 = none) :=
  ⟨by kernel_rfl, by kernel_rfl, by kernel_rfl, by kernel_rfl, by kernel_rfl, by kernel_rfl, by kernel_rfl, by kernel_rfl, by kernel_rfl, by kernel_rfl, by kernel_rfl, by kernel_rfl, by kernel_rfl, by kernel_rfl, by kernel_rfl, by kernel_rfl, by kernel_rfl, by kernel_rfl, by kernel_rfl, by kernel_rfl, by kernel_rfl, by kernel_rfl, by kernel_rfl, by kernel_rfl, by kernel_rfl, by kernel_rfl, by kernel_rfl, by kernel_rfl, by kernel_rfl, by kernel_rfl, by kernel_rfl, by kernel_rfl, by kernel_rfl, by kernel_rfl, by kernel_rfl, by kernel_rfl, by kernel_rfl, by kernel_rfl, by kernel_rfl, by kernel_rfl, by kernel_rfl, by kernel_rfl, by kernel_rfl, by kernel_rfl, by kernel_rfl⟩
theorem tyZ : (zeroCells Try.prog 3 = some [.int .i64 0]) ∧
  (zeroCells Try.prog 4 = some [.bool false]) ∧
  (zeroCells Try.prog 5 = some [.int .u8 0]) ∧
  (zeroCells Try.prog 9 = some [.str .empty]) ∧
  (zeroCells Try.prog 22 = some [.nils]) ∧
  (zeroCells Try.prog 25 = some [.int .u64 0]) ∧
  (zeroCells Try.prog 28 = some [.nils]) ∧
  (zeroCells Try.prog 30 = some [.nilp]) ∧
  (zeroCells Try.prog 32 = some [.nils]) ∧
  (zeroCells Try.prog 33 = some [.nils]) ∧
  (zeroCells Try.prog 34 = some [.nils, .nils, .int .i64 0, .int .i64 0]) ∧
  (zeroCells Try.prog 35 = some [.nils, .nils, .int .i64 0, .int .i64 0]) ∧
  (zeroCells Try.prog 38 = some [.nils]) ∧
  (zeroCells Try.prog 40 = some [.nils]) ∧
  (zeroCells Try.prog 74 = some [.nils]) ∧
  (zeroCells Try.prog 75 = some [.nils, .nils]) ∧
  (zeroCells Try.prog 76 = some [.nils, .nils]) ∧
  (zeroCells Try.prog 77 = some [.int .i64 0, .int .i64 0, .int .i64 0, .int .i64 0, .int .i64 0]) ∧
  (zeroCells Try.prog 78 = some [.int .i64 0, .int .i64 0, .int .i64 0, .int .i64 0, .int .i64 0]) ∧
  (zeroCells Try.prog 79 = some [.nils]) ∧
  (zeroCells Try.prog 100 = some [.nils, .int .i64 0]) ∧
  (zeroCells Try.prog 101 = some [.nils, .int .i64 0]) ∧
  (zeroCells Try.prog 102 = some [.int .i64 0, .int .i64 0, .int .i64 0, .int .i64 0]) ∧
  (zeroCells Try.prog 103 = some [.int .i64 0, .int .i64 0, .int .i64 0, .int .i64 0]) ∧
  (zeroCells Try.prog 104 = some [.nils]) ∧
  (zeroCells Try.prog 105 = some [.int .i64 0, .int .i64 0]) ∧
  (zeroCells Try.prog 106 = some [.int .i64 0, .int .i64 0]) ∧
  (zeroCells Try.prog 107 = some [.nils, .int .i64 0, .int .i64 0, .int .i64 0, .int .i64 0, .int .i64 0, .int .i64 0, .int .i64 0]) ∧
  (zeroCells Try.prog 108 = some [.nils, .int .i64 0, .int .i64 0, .int .i64 0, .int .i64 0, .int .i64 0, .int .i64 0, .int .i64 0]) ∧
  (zeroCells Try.prog 109 = some [.int .i64 0, .int .i64 0, .int .i64 0, .int .i64 0, .int .i64 0, .int .i64 0, .nils]) ∧
  (zeroCells Try.prog 110 = some [.int .i64 0, .int .i64 0, .int .i64 0, .int .i64 0, .int .i64 0, .int .i64 0, .nils]) ∧
  (zeroCells Try.prog 111 = some [.nils]) ∧
  (zeroCells Try.prog 112 = some [.str .empty, .int .i64 0, .int .i64 0, .nils]) ∧
  (zeroCells Try.prog 113 = some [.str .empty, .int .i64 0, .int .i64 0, .nils]) ∧
  (zeroCells Try.prog 114 = some [.nilp]) ∧
  (zeroCells Try.prog 116 = some [.nils, .nils, .nils, .nils, .nils, .int .i64 0, .nils]) ∧
  (zeroCells Try.prog 117 = some [.nils, .nils, .nils, .nils, .nils, .int .i64 0, .nils]) ∧
  (zeroCells Try.prog 186 = some [.int .u64 0]) ∧
  (zeroCells Try.prog 192 = some [.int .i64 0]) ∧
  (zeroCells Try.prog 201 = some [.int .u32 0]) ∧
  (zeroCells Try.prog 213 = some [.int .u64 0]) ∧
  (zeroCells Try.prog 217 = some [.nilp]) ∧
  (zeroCells Try.prog 223 = some [.nilp]) ∧
  (zeroCells Try.prog 242 = some [.str .empty, .int .i64 0]) ∧
  (zeroCells Try.prog 243 = some [.str .empty, .int .i64 0]) :=
  ⟨by kernel_rfl, by kernel_rfl, by kernel_rfl, by kernel_rfl, by kernel_rfl, by kernel_rfl, by kernel_rfl, by kernel_rfl, by kernel_rfl, by kernel_rfl, by kernel_rfl, by kernel_rfl, by kernel_rfl, by kernel_rfl, by kernel_rfl, by kernel_rfl, by kernel_rfl, by kernel_rfl, by kernel_rfl, by kernel_rfl, by kernel_rfl, by kernel_rfl, by kernel_rfl, by kernel_rfl, by kernel_rfl, by kernel_rfl, by kernel_rfl, by kernel_rfl, by kernel_rfl, by kernel_rfl, by kernel_rfl, by kernel_rfl, by kernel_rfl, by kernel_rfl, by kernel_rfl, by kernel_rfl, by kernel_rfl, by kernel_rfl, by kernel_rfl, by kernel_rfl, by kernel_rfl, by kernel_rfl, by kernel_rfl, by kernel_rfl, by kernel_rfl⟩
theorem tyF : ((#[{ name := "Globals", type := 32, offset := 0, embedded := false, tag := "", pkgPath := "", byteOffset := 0 }, { name := "Funcs", type := 33, offset := 1, embedded := false, tag := "", pkgPath := "", byteOffset := 24 }, { name := "Callable", type := 3, offset := 2, embedded := false, tag := "", pkgPath := "", byteOffset := 48 }, { name := "Counters", type := 3, offset := 3, embedded := false, tag := "", pkgPath := "", byteOffset := 56 }] : Array Field).all (fun f => (Try.prog.info? f.type).isSome) = true) ∧
  ((#[{ name := "Entries", type := 40, offset := 0, embedded := false, tag := "", pkgPath := "", byteOffset := 0 }, { name := "Calls", type := 74, offset := 1, embedded := false, tag := "", pkgPath := "", byteOffset := 24 }] : Array Field).all (fun f => (Try.prog.info? f.type).isSome) = true) ∧
  ((#[{ name := "Func", type := 3, offset := 0, embedded := false, tag := "", pkgPath := "", byteOffset := 0 }, { name := "Block", type := 3, offset := 1, embedded := false, tag := "", pkgPath := "", byteOffset := 8 }, { name := "Instr", type := 3, offset := 2, embedded := false, tag := "", pkgPath := "", byteOffset := 16 }, { name := "Callee", type := 3, offset := 3, embedded := false, tag := "", pkgPath := "", byteOffset := 24 }, { name := "Count", type := 3, offset := 4, embedded := false, tag := "", pkgPath := "", byteOffset := 32 }] : Array Field).all (fun f => (Try.prog.info? f.type).isSome) = true) ∧
  ((#[{ name := "l", type := 22, offset := 0, embedded := false, tag := "", pkgPath := "warmpath/warmpathdraw", byteOffset := 0 }, { name := "at", type := 3, offset := 1, embedded := false, tag := "", pkgPath := "warmpath/warmpathdraw", byteOffset := 24 }] : Array Field).all (fun f => (Try.prog.info? f.type).isSome) = true) ∧
  ((#[{ name := "Kind", type := 3, offset := 0, embedded := false, tag := "", pkgPath := "", byteOffset := 0 }, { name := "A", type := 3, offset := 1, embedded := false, tag := "", pkgPath := "", byteOffset := 8 }, { name := "To", type := 3, offset := 2, embedded := false, tag := "", pkgPath := "", byteOffset := 16 }, { name := "Else", type := 3, offset := 3, embedded := false, tag := "", pkgPath := "", byteOffset := 24 }] : Array Field).all (fun f => (Try.prog.info? f.type).isSome) = true) ∧
  ((#[{ name := "Func", type := 3, offset := 0, embedded := false, tag := "", pkgPath := "", byteOffset := 0 }, { name := "Block", type := 3, offset := 1, embedded := false, tag := "", pkgPath := "", byteOffset := 8 }] : Array Field).all (fun f => (Try.prog.info? f.type).isSome) = true) ∧
  ((#[{ name := "Instrs", type := 104, offset := 0, embedded := false, tag := "", pkgPath := "", byteOffset := 0 }, { name := "Term", type := 103, offset := 1, embedded := false, tag := "", pkgPath := "", byteOffset := 24 }, { name := "Line", type := 3, offset := 5, embedded := false, tag := "", pkgPath := "", byteOffset := 56 }, { name := "Origin", type := 106, offset := 6, embedded := false, tag := "", pkgPath := "", byteOffset := 64 }] : Array Field).all (fun f => (Try.prog.info? f.type).isSome) = true) ∧
  ((#[{ name := "Kind", type := 3, offset := 0, embedded := false, tag := "", pkgPath := "", byteOffset := 0 }, { name := "Op", type := 3, offset := 1, embedded := false, tag := "", pkgPath := "", byteOffset := 8 }, { name := "Dst", type := 3, offset := 2, embedded := false, tag := "", pkgPath := "", byteOffset := 16 }, { name := "A", type := 3, offset := 3, embedded := false, tag := "", pkgPath := "", byteOffset := 24 }, { name := "B", type := 3, offset := 4, embedded := false, tag := "", pkgPath := "", byteOffset := 32 }, { name := "Value", type := 3, offset := 5, embedded := false, tag := "", pkgPath := "", byteOffset := 40 }, { name := "Args", type := 40, offset := 6, embedded := false, tag := "", pkgPath := "", byteOffset := 48 }] : Array Field).all (fun f => (Try.prog.info? f.type).isSome) = true) ∧
  ((#[{ name := "Name", type := 9, offset := 0, embedded := false, tag := "", pkgPath := "", byteOffset := 0 }, { name := "Params", type := 3, offset := 1, embedded := false, tag := "", pkgPath := "", byteOffset := 16 }, { name := "Regs", type := 3, offset := 2, embedded := false, tag := "", pkgPath := "", byteOffset := 24 }, { name := "Blocks", type := 111, offset := 3, embedded := false, tag := "", pkgPath := "", byteOffset := 32 }] : Array Field).all (fun f => (Try.prog.info? f.type).isSome) = true) ∧
  ((#[{ name := "calls", type := 28, offset := 0, embedded := false, tag := "", pkgPath := "warmpath/callgraph", byteOffset := 0 }, { name := "number", type := 40, offset := 1, embedded := false, tag := "", pkgPath := "warmpath/callgraph", byteOffset := 24 }, { name := "low", type := 40, offset := 2, embedded := false, tag := "", pkgPath := "warmpath/callgraph", byteOffset := 48 }, { name := "set", type := 40, offset := 3, embedded := false, tag := "", pkgPath := "warmpath/callgraph", byteOffset := 72 }, { name := "stack", type := 40, offset := 4, embedded := false, tag := "", pkgPath := "warmpath/callgraph", byteOffset := 96 }, { name := "found", type := 3, offset := 5, embedded := false, tag := "", pkgPath := "warmpath/callgraph", byteOffset := 120 }, { name := "sets", type := 28, offset := 6, embedded := false, tag := "", pkgPath := "warmpath/callgraph", byteOffset := 128 }] : Array Field).all (fun f => (Try.prog.info? f.type).isSome) = true) ∧
  ((#[{ name := "Name", type := 9, offset := 0, embedded := false, tag := "", pkgPath := "", byteOffset := 0 }, { name := "Size", type := 3, offset := 1, embedded := false, tag := "", pkgPath := "", byteOffset := 16 }] : Array Field).all (fun f => (Try.prog.info? f.type).isSome) = true) :=
  ⟨by kernel_rfl, by kernel_rfl, by kernel_rfl, by kernel_rfl, by kernel_rfl, by kernel_rfl, by kernel_rfl, by kernel_rfl, by kernel_rfl, by kernel_rfl, by kernel_rfl⟩
theorem tyP : (True) :=
  trivial
end Go.Proofs.Ythginmfobikdgaa
