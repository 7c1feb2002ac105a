/- The facts on the types (printed by tyfacts.py). -/
import Derived.Test.YthginmfobikdgaaPvX
import Derived.Test.YthginmfobikdgaaProg
import Derived.KernelRfl
set_option maxRecDepth 100000
namespace Go.Proofs.Ythginmfobikdgaa
open Go.PV
theorem tyU : (Try.prog.underlying 2 = some (.int .i64)) ∧
  (Try.prog.underlying 3 = some (.int .i64)) ∧
  (Try.prog.underlying 4 = some (.bool)) ∧
  (Try.prog.underlying 5 = some (.int .u8)) ∧
  (Try.prog.underlying 9 = some (.string)) ∧
  (Try.prog.underlying 12 = some (.int .u64)) ∧
  (Try.prog.underlying 13 = some (.struct #[{ name := "msg", type := 9, offset := 0, embedded := false, tag := "", pkgPath := "runtime", byteOffset := 0 }, { name := "addr", type := 12, offset := 1, embedded := false, tag := "", pkgPath := "runtime", byteOffset := 16 }])) ∧
  (Try.prog.underlying 21 = some (.int .i32)) ∧
  (Try.prog.underlying 22 = some (.slice 5)) ∧
  (Try.prog.underlying 24 = some (.slice 25)) ∧
  (Try.prog.underlying 25 = some (.int .u64)) ∧
  (Try.prog.underlying 28 = some (.slice 40)) ∧
  (Try.prog.underlying 30 = some (.pointer 101)) ∧
  (Try.prog.underlying 32 = some (.slice 243)) ∧
  (Try.prog.underlying 33 = some (.slice 113)) ∧
  (Try.prog.underlying 34 = some (.struct #[{ name := "Globals", type := 32, offset := 0, embedded := false, tag := "", pkgPath := "", byteOffset := 0 }, { name := "Funcs", type := 33, offset := 1, embedded := false, tag := "", pkgPath := "", byteOffset := 24 }, { name := "Callable", type := 3, offset := 2, embedded := false, tag := "", pkgPath := "", byteOffset := 48 }, { name := "Counters", type := 3, offset := 3, embedded := false, tag := "", pkgPath := "", byteOffset := 56 }])) ∧
  (Try.prog.underlying 35 = some (.struct #[{ name := "Globals", type := 32, offset := 0, embedded := false, tag := "", pkgPath := "", byteOffset := 0 }, { name := "Funcs", type := 33, offset := 1, embedded := false, tag := "", pkgPath := "", byteOffset := 24 }, { name := "Callable", type := 3, offset := 2, embedded := false, tag := "", pkgPath := "", byteOffset := 48 }, { name := "Counters", type := 3, offset := 3, embedded := false, tag := "", pkgPath := "", byteOffset := 56 }])) ∧
  (Try.prog.underlying 38 = some (.slice 4)) ∧
  (Try.prog.underlying 40 = some (.slice 3)) ∧
  (Try.prog.underlying 42 = some (.slice 51)) ∧
  (Try.prog.underlying 45 = some (.struct #[{ name := "Num", type := 3, offset := 0, embedded := false, tag := "", pkgPath := "", byteOffset := 0 }, { name := "Den", type := 3, offset := 1, embedded := false, tag := "", pkgPath := "", byteOffset := 8 }])) ∧
  (Try.prog.underlying 46 = some (.struct #[{ name := "Num", type := 3, offset := 0, embedded := false, tag := "", pkgPath := "", byteOffset := 0 }, { name := "Den", type := 3, offset := 1, embedded := false, tag := "", pkgPath := "", byteOffset := 8 }])) ∧
  (Try.prog.underlying 49 = some (.slice 60)) ∧
  (Try.prog.underlying 50 = some (.struct #[{ name := "Funcs", type := 49, offset := 0, embedded := false, tag := "", pkgPath := "", byteOffset := 0 }])) ∧
  (Try.prog.underlying 51 = some (.struct #[{ name := "Funcs", type := 49, offset := 0, embedded := false, tag := "", pkgPath := "", byteOffset := 0 }])) ∧
  (Try.prog.underlying 52 = some (.int .i64)) ∧
  (Try.prog.underlying 57 = some (.slice 121)) ∧
  (Try.prog.underlying 58 = some (.slice 63)) ∧
  (Try.prog.underlying 59 = some (.struct #[{ name := "Entries", type := 3, offset := 0, embedded := false, tag := "", pkgPath := "", byteOffset := 0 }, { name := "Blocks", type := 40, offset := 1, embedded := false, tag := "", pkgPath := "", byteOffset := 8 }, { name := "Edges", type := 57, offset := 2, embedded := false, tag := "", pkgPath := "", byteOffset := 32 }, { name := "Sites", type := 58, offset := 3, embedded := false, tag := "", pkgPath := "", byteOffset := 56 }])) ∧
  (Try.prog.underlying 60 = some (.struct #[{ name := "Entries", type := 3, offset := 0, embedded := false, tag := "", pkgPath := "", byteOffset := 0 }, { name := "Blocks", type := 40, offset := 1, embedded := false, tag := "", pkgPath := "", byteOffset := 8 }, { name := "Edges", type := 57, offset := 2, embedded := false, tag := "", pkgPath := "", byteOffset := 32 }, { name := "Sites", type := 58, offset := 3, embedded := false, tag := "", pkgPath := "", byteOffset := 56 }])) ∧
  (Try.prog.underlying 61 = some (.slice 65)) ∧
  (Try.prog.underlying 62 = some (.struct #[{ name := "Block", type := 3, offset := 0, embedded := false, tag := "", pkgPath := "", byteOffset := 0 }, { name := "Instr", type := 3, offset := 1, embedded := false, tag := "", pkgPath := "", byteOffset := 8 }, { name := "Targets", type := 61, offset := 2, embedded := false, tag := "", pkgPath := "", byteOffset := 16 }])) ∧
  (Try.prog.underlying 63 = some (.struct #[{ name := "Block", type := 3, offset := 0, embedded := false, tag := "", pkgPath := "", byteOffset := 0 }, { name := "Instr", type := 3, offset := 1, embedded := false, tag := "", pkgPath := "", byteOffset := 8 }, { name := "Targets", type := 61, offset := 2, embedded := false, tag := "", pkgPath := "", byteOffset := 16 }])) ∧
  (Try.prog.underlying 64 = some (.struct #[{ name := "Func", type := 3, offset := 0, embedded := false, tag := "", pkgPath := "", byteOffset := 0 }, { name := "Count", type := 3, offset := 1, embedded := false, tag := "", pkgPath := "", byteOffset := 8 }])) ∧
  (Try.prog.underlying 65 = some (.struct #[{ name := "Func", type := 3, offset := 0, embedded := false, tag := "", pkgPath := "", byteOffset := 0 }, { name := "Count", type := 3, offset := 1, embedded := false, tag := "", pkgPath := "", byteOffset := 8 }])) ∧
  (Try.prog.underlying 69 = some (.slice 46)) ∧
  (Try.prog.underlying 74 = some (.slice 78)) ∧
  (Try.prog.underlying 75 = some (.struct #[{ name := "Entries", type := 40, offset := 0, embedded := false, tag := "", pkgPath := "", byteOffset := 0 }, { name := "Calls", type := 74, offset := 1, embedded := false, tag := "", pkgPath := "", byteOffset := 24 }])) ∧
  (Try.prog.underlying 76 = some (.struct #[{ name := "Entries", type := 40, offset := 0, embedded := false, tag := "", pkgPath := "", byteOffset := 0 }, { name := "Calls", type := 74, offset := 1, embedded := false, tag := "", pkgPath := "", byteOffset := 24 }])) ∧
  (Try.prog.underlying 77 = some (.struct #[{ name := "Func", type := 3, offset := 0, embedded := false, tag := "", pkgPath := "", byteOffset := 0 }, { name := "Block", type := 3, offset := 1, embedded := false, tag := "", pkgPath := "", byteOffset := 8 }, { name := "Instr", type := 3, offset := 2, embedded := false, tag := "", pkgPath := "", byteOffset := 16 }, { name := "Callee", type := 3, offset := 3, embedded := false, tag := "", pkgPath := "", byteOffset := 24 }, { name := "Count", type := 3, offset := 4, embedded := false, tag := "", pkgPath := "", byteOffset := 32 }])) ∧
  (Try.prog.underlying 78 = some (.struct #[{ name := "Func", type := 3, offset := 0, embedded := false, tag := "", pkgPath := "", byteOffset := 0 }, { name := "Block", type := 3, offset := 1, embedded := false, tag := "", pkgPath := "", byteOffset := 8 }, { name := "Instr", type := 3, offset := 2, embedded := false, tag := "", pkgPath := "", byteOffset := 16 }, { name := "Callee", type := 3, offset := 3, embedded := false, tag := "", pkgPath := "", byteOffset := 24 }, { name := "Count", type := 3, offset := 4, embedded := false, tag := "", pkgPath := "", byteOffset := 32 }])) ∧
  (Try.prog.underlying 79 = some (.slice 76)) ∧
  (Try.prog.underlying 86 = some (.pointer 78)) ∧
  (Try.prog.underlying 87 = some (.struct #[{ name := "sizes", type := 40, offset := 0, embedded := false, tag := "", pkgPath := "warmpath/warmpathlaw38", byteOffset := 0 }, { name := "g", type := 76, offset := 1, embedded := false, tag := "", pkgPath := "warmpath/warmpathlaw38", byteOffset := 24 }, { name := "page", type := 3, offset := 3, embedded := false, tag := "", pkgPath := "warmpath/warmpathlaw38", byteOffset := 72 }, { name := "l", type := 40, offset := 4, embedded := false, tag := "", pkgPath := "warmpath/warmpathlaw38", byteOffset := 80 }])) ∧
  (Try.prog.underlying 88 = some (.slice 87)) ∧
  (Try.prog.underlying 92 = some (.int .u16)) ∧
  (Try.prog.underlying 99 = some (.map 25 3)) ∧
  (Try.prog.underlying 100 = some (.struct #[{ name := "l", type := 22, offset := 0, embedded := false, tag := "", pkgPath := "warmpath/warmpathdraw", byteOffset := 0 }, { name := "at", type := 3, offset := 1, embedded := false, tag := "", pkgPath := "warmpath/warmpathdraw", byteOffset := 24 }])) ∧
  (Try.prog.underlying 101 = some (.struct #[{ name := "l", type := 22, offset := 0, embedded := false, tag := "", pkgPath := "warmpath/warmpathdraw", byteOffset := 0 }, { name := "at", type := 3, offset := 1, embedded := false, tag := "", pkgPath := "warmpath/warmpathdraw", byteOffset := 24 }])) ∧
  (Try.prog.underlying 102 = some (.struct #[{ name := "Kind", type := 3, offset := 0, embedded := false, tag := "", pkgPath := "", byteOffset := 0 }, { name := "A", type := 3, offset := 1, embedded := false, tag := "", pkgPath := "", byteOffset := 8 }, { name := "To", type := 3, offset := 2, embedded := false, tag := "", pkgPath := "", byteOffset := 16 }, { name := "Else", type := 3, offset := 3, embedded := false, tag := "", pkgPath := "", byteOffset := 24 }])) ∧
  (Try.prog.underlying 103 = some (.struct #[{ name := "Kind", type := 3, offset := 0, embedded := false, tag := "", pkgPath := "", byteOffset := 0 }, { name := "A", type := 3, offset := 1, embedded := false, tag := "", pkgPath := "", byteOffset := 8 }, { name := "To", type := 3, offset := 2, embedded := false, tag := "", pkgPath := "", byteOffset := 16 }, { name := "Else", type := 3, offset := 3, embedded := false, tag := "", pkgPath := "", byteOffset := 24 }])) ∧
  (Try.prog.underlying 104 = some (.slice 110)) ∧
  (Try.prog.underlying 105 = some (.struct #[{ name := "Func", type := 3, offset := 0, embedded := false, tag := "", pkgPath := "", byteOffset := 0 }, { name := "Block", type := 3, offset := 1, embedded := false, tag := "", pkgPath := "", byteOffset := 8 }])) ∧
  (Try.prog.underlying 106 = some (.struct #[{ name := "Func", type := 3, offset := 0, embedded := false, tag := "", pkgPath := "", byteOffset := 0 }, { name := "Block", type := 3, offset := 1, embedded := false, tag := "", pkgPath := "", byteOffset := 8 }])) ∧
  (Try.prog.underlying 107 = some (.struct #[{ name := "Instrs", type := 104, offset := 0, embedded := false, tag := "", pkgPath := "", byteOffset := 0 }, { name := "Term", type := 103, offset := 1, embedded := false, tag := "", pkgPath := "", byteOffset := 24 }, { name := "Line", type := 3, offset := 5, embedded := false, tag := "", pkgPath := "", byteOffset := 56 }, { name := "Origin", type := 106, offset := 6, embedded := false, tag := "", pkgPath := "", byteOffset := 64 }])) ∧
  (Try.prog.underlying 108 = some (.struct #[{ name := "Instrs", type := 104, offset := 0, embedded := false, tag := "", pkgPath := "", byteOffset := 0 }, { name := "Term", type := 103, offset := 1, embedded := false, tag := "", pkgPath := "", byteOffset := 24 }, { name := "Line", type := 3, offset := 5, embedded := false, tag := "", pkgPath := "", byteOffset := 56 }, { name := "Origin", type := 106, offset := 6, embedded := false, tag := "", pkgPath := "", byteOffset := 64 }])) ∧
  (Try.prog.underlying 109 = some (.struct #[{ name := "Kind", type := 3, offset := 0, embedded := false, tag := "", pkgPath := "", byteOffset := 0 }, { name := "Op", type := 3, offset := 1, embedded := false, tag := "", pkgPath := "", byteOffset := 8 }, { name := "Dst", type := 3, offset := 2, embedded := false, tag := "", pkgPath := "", byteOffset := 16 }, { name := "A", type := 3, offset := 3, embedded := false, tag := "", pkgPath := "", byteOffset := 24 }, { name := "B", type := 3, offset := 4, embedded := false, tag := "", pkgPath := "", byteOffset := 32 }, { name := "Value", type := 3, offset := 5, embedded := false, tag := "", pkgPath := "", byteOffset := 40 }, { name := "Args", type := 40, offset := 6, embedded := false, tag := "", pkgPath := "", byteOffset := 48 }])) ∧
  (Try.prog.underlying 110 = some (.struct #[{ name := "Kind", type := 3, offset := 0, embedded := false, tag := "", pkgPath := "", byteOffset := 0 }, { name := "Op", type := 3, offset := 1, embedded := false, tag := "", pkgPath := "", byteOffset := 8 }, { name := "Dst", type := 3, offset := 2, embedded := false, tag := "", pkgPath := "", byteOffset := 16 }, { name := "A", type := 3, offset := 3, embedded := false, tag := "", pkgPath := "", byteOffset := 24 }, { name := "B", type := 3, offset := 4, embedded := false, tag := "", pkgPath := "", byteOffset := 32 }, { name := "Value", type := 3, offset := 5, embedded := false, tag := "", pkgPath := "", byteOffset := 40 }, { name := "Args", type := 40, offset := 6, embedded := false, tag := "", pkgPath := "", byteOffset := 48 }])) ∧
  (Try.prog.underlying 111 = some (.slice 108)) ∧
  (Try.prog.underlying 112 = some (.struct #[{ name := "Name", type := 9, offset := 0, embedded := false, tag := "", pkgPath := "", byteOffset := 0 }, { name := "Params", type := 3, offset := 1, embedded := false, tag := "", pkgPath := "", byteOffset := 16 }, { name := "Regs", type := 3, offset := 2, embedded := false, tag := "", pkgPath := "", byteOffset := 24 }, { name := "Blocks", type := 111, offset := 3, embedded := false, tag := "", pkgPath := "", byteOffset := 32 }])) ∧
  (Try.prog.underlying 113 = some (.struct #[{ name := "Name", type := 9, offset := 0, embedded := false, tag := "", pkgPath := "", byteOffset := 0 }, { name := "Params", type := 3, offset := 1, embedded := false, tag := "", pkgPath := "", byteOffset := 16 }, { name := "Regs", type := 3, offset := 2, embedded := false, tag := "", pkgPath := "", byteOffset := 24 }, { name := "Blocks", type := 111, offset := 3, embedded := false, tag := "", pkgPath := "", byteOffset := 32 }])) ∧
  (Try.prog.underlying 114 = some (.pointer 117)) ∧
  (Try.prog.underlying 116 = some (.struct #[{ name := "calls", type := 28, offset := 0, embedded := false, tag := "", pkgPath := "warmpath/callgraph", byteOffset := 0 }, { name := "number", type := 40, offset := 1, embedded := false, tag := "", pkgPath := "warmpath/callgraph", byteOffset := 24 }, { name := "low", type := 40, offset := 2, embedded := false, tag := "", pkgPath := "warmpath/callgraph", byteOffset := 48 }, { name := "set", type := 40, offset := 3, embedded := false, tag := "", pkgPath := "warmpath/callgraph", byteOffset := 72 }, { name := "stack", type := 40, offset := 4, embedded := false, tag := "", pkgPath := "warmpath/callgraph", byteOffset := 96 }, { name := "found", type := 3, offset := 5, embedded := false, tag := "", pkgPath := "warmpath/callgraph", byteOffset := 120 }, { name := "sets", type := 28, offset := 6, embedded := false, tag := "", pkgPath := "warmpath/callgraph", byteOffset := 128 }])) ∧
  (Try.prog.underlying 117 = some (.struct #[{ name := "calls", type := 28, offset := 0, embedded := false, tag := "", pkgPath := "warmpath/callgraph", byteOffset := 0 }, { name := "number", type := 40, offset := 1, embedded := false, tag := "", pkgPath := "warmpath/callgraph", byteOffset := 24 }, { name := "low", type := 40, offset := 2, embedded := false, tag := "", pkgPath := "warmpath/callgraph", byteOffset := 48 }, { name := "set", type := 40, offset := 3, embedded := false, tag := "", pkgPath := "warmpath/callgraph", byteOffset := 72 }, { name := "stack", type := 40, offset := 4, embedded := false, tag := "", pkgPath := "warmpath/callgraph", byteOffset := 96 }, { name := "found", type := 3, offset := 5, embedded := false, tag := "", pkgPath := "warmpath/callgraph", byteOffset := 120 }, { name := "sets", type := 28, offset := 6, embedded := false, tag := "", pkgPath := "warmpath/callgraph", byteOffset := 128 }])) ∧
  (Try.prog.underlying 121 = some (.array 2 3)) ∧
  (Try.prog.underlying 126 = some (.struct #[{ name := "weights", type := 40, offset := 0, embedded := false, tag := "", pkgPath := "warmpath/weight", byteOffset := 0 }, { name := "den", type := 3, offset := 1, embedded := false, tag := "", pkgPath := "warmpath/weight", byteOffset := 24 }, { name := "l", type := 49, offset := 2, embedded := false, tag := "", pkgPath := "warmpath/weight", byteOffset := 32 }])) ∧
  (Try.prog.underlying 127 = some (.struct #[{ name := "weights", type := 40, offset := 0, embedded := false, tag := "", pkgPath := "warmpath/weight", byteOffset := 0 }, { name := "den", type := 3, offset := 1, embedded := false, tag := "", pkgPath := "warmpath/weight", byteOffset := 24 }, { name := "l", type := 49, offset := 2, embedded := false, tag := "", pkgPath := "warmpath/weight", byteOffset := 32 }])) ∧
  (Try.prog.underlying 140 = some (.pointer 189)) ∧
  (Try.prog.underlying 143 = some (.int .i16)) ∧
  (Try.prog.underlying 144 = some (.array 256 143)) ∧
  (Try.prog.underlying 169 = some (.struct #[{ name := "known", type := 4, offset := 0, embedded := false, tag := "", pkgPath := "warmpath/weight", byteOffset := 0 }, { name := "total", type := 3, offset := 1, embedded := false, tag := "", pkgPath := "warmpath/weight", byteOffset := 8 }])) ∧
  (Try.prog.underlying 170 = some (.struct #[{ name := "known", type := 4, offset := 0, embedded := false, tag := "", pkgPath := "warmpath/weight", byteOffset := 0 }, { name := "total", type := 3, offset := 1, embedded := false, tag := "", pkgPath := "warmpath/weight", byteOffset := 8 }])) ∧
  (Try.prog.underlying 172 = some (.map 175 176)) ∧
  (Try.prog.underlying 173 = some (.slice 175)) ∧
  (Try.prog.underlying 174 = some (.struct #[{ name := "block", type := 3, offset := 0, embedded := false, tag := "", pkgPath := "warmpath/weight", byteOffset := 0 }, { name := "instr", type := 3, offset := 1, embedded := false, tag := "", pkgPath := "warmpath/weight", byteOffset := 8 }, { name := "fn", type := 3, offset := 2, embedded := false, tag := "", pkgPath := "warmpath/weight", byteOffset := 16 }])) ∧
  (Try.prog.underlying 175 = some (.struct #[{ name := "block", type := 3, offset := 0, embedded := false, tag := "", pkgPath := "warmpath/weight", byteOffset := 0 }, { name := "instr", type := 3, offset := 1, embedded := false, tag := "", pkgPath := "warmpath/weight", byteOffset := 8 }, { name := "fn", type := 3, offset := 2, embedded := false, tag := "", pkgPath := "warmpath/weight", byteOffset := 16 }])) ∧
  (Try.prog.underlying 176 = some (.pointer 170)) ∧
  (Try.prog.underlying 179 = some (.pointer 63)) ∧
  (Try.prog.underlying 186 = some (.int .u64)) ∧
  (Try.prog.underlying 188 = some (.array 256 144)) ∧
  (Try.prog.underlying 189 = some (.array 256 144)) ∧
  (Try.prog.underlying 192 = some (.int .i64)) ∧
  (Try.prog.underlying 201 = some (.int .u32)) ∧
  (Try.prog.underlying 213 = some (.int .u64)) ∧
  (Try.prog.underlying 217 = some (.pointer 3)) ∧
  (Try.prog.underlying 223 = some (.pointer 213)) ∧
  (Try.prog.underlying 237 = some (.pointer 5)) ∧
  (Try.prog.underlying 242 = some (.struct #[{ name := "Name", type := 9, offset := 0, embedded := false, tag := "", pkgPath := "", byteOffset := 0 }, { name := "Size", type := 3, offset := 1, embedded := false, tag := "", pkgPath := "", byteOffset := 16 }])) ∧
  (Try.prog.underlying 243 = some (.struct #[{ name := "Name", type := 9, offset := 0, embedded := false, tag := "", pkgPath := "", byteOffset := 0 }, { name := "Size", type := 3, offset := 1, embedded := false, tag := "", pkgPath := "", byteOffset := 16 }])) :=
  ⟨by kernel_rfl, by kernel_rfl, by kernel_rfl, by kernel_rfl, by kernel_rfl, by kernel_rfl, by kernel_rfl, by kernel_rfl, by kernel_rfl, by kernel_rfl, by kernel_rfl, by kernel_rfl, by kernel_rfl, by kernel_rfl, by kernel_rfl, by kernel_rfl, by kernel_rfl, by kernel_rfl, by kernel_rfl, by kernel_rfl, by kernel_rfl, by kernel_rfl, by kernel_rfl, by kernel_rfl, by kernel_rfl, by kernel_rfl, by kernel_rfl, by kernel_rfl, by kernel_rfl, by kernel_rfl, by kernel_rfl, by kernel_rfl, by kernel_rfl, by kernel_rfl, by kernel_rfl, by kernel_rfl, by kernel_rfl, by kernel_rfl, by kernel_rfl, by kernel_rfl, by kernel_rfl, by kernel_rfl, by kernel_rfl, by kernel_rfl, by kernel_rfl, by kernel_rfl, by kernel_rfl, by kernel_rfl, by kernel_rfl, by kernel_rfl, by kernel_rfl, by kernel_rfl, by kernel_rfl, by kernel_rfl, by kernel_rfl, by kernel_rfl, by kernel_rfl, by kernel_rfl, by kernel_rfl, by kernel_rfl, by kernel_rfl, by kernel_rfl, by kernel_rfl, by kernel_rfl, by kernel_rfl, by kernel_rfl, by kernel_rfl, by kernel_rfl, by kernel_rfl, by kernel_rfl, by kernel_rfl, by kernel_rfl, by kernel_rfl, by kernel_rfl, by kernel_rfl, by kernel_rfl, by kernel_rfl, by kernel_rfl, by kernel_rfl, by kernel_rfl, by kernel_rfl, by kernel_rfl, by kernel_rfl, by kernel_rfl, by kernel_rfl, by kernel_rfl, by kernel_rfl, by kernel_rfl, by kernel_rfl⟩
theorem tyC : (Try.prog.cellsOf 2 = 1) ∧
  (Try.prog.cellsOf 3 = 1) ∧
  (Try.prog.cellsOf 4 = 1) ∧
  (Try.prog.cellsOf 5 = 1) ∧
  (Try.prog.cellsOf 9 = 1) ∧
  (Try.prog.cellsOf 12 = 1) ∧
  (Try.prog.cellsOf 13 = 2) ∧
  (Try.prog.cellsOf 21 = 1) ∧
  (Try.prog.cellsOf 22 = 1) ∧
  (Try.prog.cellsOf 24 = 1) ∧
  (Try.prog.cellsOf 25 = 1) ∧
  (Try.prog.cellsOf 28 = 1) ∧
  (Try.prog.cellsOf 30 = 1) ∧
  (Try.prog.cellsOf 32 = 1) ∧
  (Try.prog.cellsOf 33 = 1) ∧
  (Try.prog.cellsOf 34 = 4) ∧
  (Try.prog.cellsOf 35 = 4) ∧
  (Try.prog.cellsOf 38 = 1) ∧
  (Try.prog.cellsOf 40 = 1) ∧
  (Try.prog.cellsOf 42 = 1) ∧
  (Try.prog.cellsOf 45 = 2) ∧
  (Try.prog.cellsOf 46 = 2) ∧
  (Try.prog.cellsOf 49 = 1) ∧
  (Try.prog.cellsOf 50 = 1) ∧
  (Try.prog.cellsOf 51 = 1) ∧
  (Try.prog.cellsOf 52 = 1) ∧
  (Try.prog.cellsOf 57 = 1) ∧
  (Try.prog.cellsOf 58 = 1) ∧
  (Try.prog.cellsOf 59 = 4) ∧
  (Try.prog.cellsOf 60 = 4) ∧
  (Try.prog.cellsOf 61 = 1) ∧
  (Try.prog.cellsOf 62 = 3) ∧
  (Try.prog.cellsOf 63 = 3) ∧
  (Try.prog.cellsOf 64 = 2) ∧
  (Try.prog.cellsOf 65 = 2) ∧
  (Try.prog.cellsOf 69 = 1) ∧
  (Try.prog.cellsOf 74 = 1) ∧
  (Try.prog.cellsOf 75 = 2) ∧
  (Try.prog.cellsOf 76 = 2) ∧
  (Try.prog.cellsOf 77 = 5) ∧
  (Try.prog.cellsOf 78 = 5) ∧
  (Try.prog.cellsOf 79 = 1) ∧
  (Try.prog.cellsOf 86 = 1) ∧
  (Try.prog.cellsOf 87 = 5) ∧
  (Try.prog.cellsOf 88 = 1) ∧
  (Try.prog.cellsOf 92 = 1) ∧
  (Try.prog.cellsOf 99 = 1) ∧
  (Try.prog.cellsOf 100 = 2) ∧
  (Try.prog.cellsOf 101 = 2) ∧
  (Try.prog.cellsOf 102 = 4) ∧
  (Try.prog.cellsOf 103 = 4) ∧
  (Try.prog.cellsOf 104 = 1) ∧
  (Try.prog.cellsOf 105 = 2) ∧
  (Try.prog.cellsOf 106 = 2) ∧
  (Try.prog.cellsOf 107 = 8) ∧
  (Try.prog.cellsOf 108 = 8) ∧
  (Try.prog.cellsOf 109 = 7) ∧
  (Try.prog.cellsOf 110 = 7) ∧
  (Try.prog.cellsOf 111 = 1) ∧
  (Try.prog.cellsOf 112 = 4) ∧
  (Try.prog.cellsOf 113 = 4) ∧
  (Try.prog.cellsOf 114 = 1) ∧
  (Try.prog.cellsOf 116 = 7) ∧
  (Try.prog.cellsOf 117 = 7) ∧
  (Try.prog.cellsOf 121 = 2) ∧
  (Try.prog.cellsOf 126 = 3) ∧
  (Try.prog.cellsOf 127 = 3) ∧
  (Try.prog.cellsOf 140 = 1) ∧
  (Try.prog.cellsOf 143 = 1) ∧
  (Try.prog.cellsOf 144 = 256) ∧
  (Try.prog.cellsOf 169 = 2) ∧
  (Try.prog.cellsOf 170 = 2) ∧
  (Try.prog.cellsOf 172 = 1) ∧
  (Try.prog.cellsOf 173 = 1) ∧
  (Try.prog.cellsOf 174 = 3) ∧
  (Try.prog.cellsOf 175 = 3) ∧
  (Try.prog.cellsOf 176 = 1) ∧
  (Try.prog.cellsOf 179 = 1) ∧
  (Try.prog.cellsOf 186 = 1) ∧
  (Try.prog.cellsOf 188 = 65536) ∧
  (Try.prog.cellsOf 189 = 65536) ∧
  (Try.prog.cellsOf 192 = 1) ∧
  (Try.prog.cellsOf 201 = 1) ∧
  (Try.prog.cellsOf 213 = 1) ∧
  (Try.prog.cellsOf 217 = 1) ∧
  (Try.prog.cellsOf 223 = 1) ∧
  (Try.prog.cellsOf 237 = 1) ∧
  (Try.prog.cellsOf 242 = 2) ∧
  (Try.prog.cellsOf 243 = 2) :=
  ⟨by kernel_rfl, by kernel_rfl, by kernel_rfl, by kernel_rfl, by kernel_rfl, by kernel_rfl, by kernel_rfl, by kernel_rfl, by kernel_rfl, by kernel_rfl, by kernel_rfl, by kernel_rfl, by kernel_rfl, by kernel_rfl, by kernel_rfl, by kernel_rfl, by kernel_rfl, by kernel_rfl, by kernel_rfl, by kernel_rfl, by kernel_rfl, by kernel_rfl, by kernel_rfl, by kernel_rfl, by kernel_rfl, by kernel_rfl, by kernel_rfl, by kernel_rfl, by kernel_rfl, by kernel_rfl, by kernel_rfl, by kernel_rfl, by kernel_rfl, by kernel_rfl, by kernel_rfl, by kernel_rfl, by kernel_rfl, by kernel_rfl, by kernel_rfl, by kernel_rfl, by kernel_rfl, by kernel_rfl, by kernel_rfl, by kernel_rfl, by kernel_rfl, by kernel_rfl, by kernel_rfl, by kernel_rfl, by kernel_rfl, by kernel_rfl, by kernel_rfl, by kernel_rfl, by kernel_rfl, by kernel_rfl, by kernel_rfl, by kernel_rfl, by kernel_rfl, by kernel_rfl, by kernel_rfl, by kernel_rfl, by kernel_rfl, by kernel_rfl, by kernel_rfl, by kernel_rfl, by kernel_rfl, by kernel_rfl, by kernel_rfl, by kernel_rfl, by kernel_rfl, by kernel_rfl, by kernel_rfl, by kernel_rfl, by kernel_rfl, by kernel_rfl, by kernel_rfl, by kernel_rfl, by kernel_rfl, by kernel_rfl, by kernel_rfl, by kernel_rfl, by kernel_rfl, by kernel_rfl, by kernel_rfl, by kernel_rfl, by kernel_rfl, by kernel_rfl, by kernel_rfl, by kernel_rfl, by kernel_rfl⟩
theorem tyB : (Try.prog.bytesOf 2 = 8) ∧
  (Try.prog.bytesOf 3 = 8) ∧
  (Try.prog.bytesOf 4 = 1) ∧
  (Try.prog.bytesOf 5 = 1) ∧
  (Try.prog.bytesOf 9 = 16) ∧
  (Try.prog.bytesOf 12 = 8) ∧
  (Try.prog.bytesOf 13 = 24) ∧
  (Try.prog.bytesOf 21 = 4) ∧
  (Try.prog.bytesOf 22 = 24) ∧
  (Try.prog.bytesOf 24 = 24) ∧
  (Try.prog.bytesOf 25 = 8) ∧
  (Try.prog.bytesOf 28 = 24) ∧
  (Try.prog.bytesOf 30 = 8) ∧
  (Try.prog.bytesOf 32 = 24) ∧
  (Try.prog.bytesOf 33 = 24) ∧
  (Try.prog.bytesOf 34 = 64) ∧
  (Try.prog.bytesOf 35 = 64) ∧
  (Try.prog.bytesOf 38 = 24) ∧
  (Try.prog.bytesOf 40 = 24) ∧
  (Try.prog.bytesOf 42 = 24) ∧
  (Try.prog.bytesOf 45 = 16) ∧
  (Try.prog.bytesOf 46 = 16) ∧
  (Try.prog.bytesOf 49 = 24) ∧
  (Try.prog.bytesOf 50 = 24) ∧
  (Try.prog.bytesOf 51 = 24) ∧
  (Try.prog.bytesOf 52 = 8) ∧
  (Try.prog.bytesOf 57 = 24) ∧
  (Try.prog.bytesOf 58 = 24) ∧
  (Try.prog.bytesOf 59 = 80) ∧
  (Try.prog.bytesOf 60 = 80) ∧
  (Try.prog.bytesOf 61 = 24) ∧
  (Try.prog.bytesOf 62 = 40) ∧
  (Try.prog.bytesOf 63 = 40) ∧
  (Try.prog.bytesOf 64 = 16) ∧
  (Try.prog.bytesOf 65 = 16) ∧
  (Try.prog.bytesOf 69 = 24) ∧
  (Try.prog.bytesOf 74 = 24) ∧
  (Try.prog.bytesOf 75 = 48) ∧
  (Try.prog.bytesOf 76 = 48) ∧
  (Try.prog.bytesOf 77 = 40) ∧
  (Try.prog.bytesOf 78 = 40) ∧
  (Try.prog.bytesOf 79 = 24) ∧
  (Try.prog.bytesOf 86 = 8) ∧
  (Try.prog.bytesOf 87 = 104) ∧
  (Try.prog.bytesOf 88 = 24) ∧
  (Try.prog.bytesOf 92 = 2) ∧
  (Try.prog.bytesOf 99 = 8) ∧
  (Try.prog.bytesOf 100 = 32) ∧
  (Try.prog.bytesOf 101 = 32) ∧
  (Try.prog.bytesOf 102 = 32) ∧
  (Try.prog.bytesOf 103 = 32) ∧
  (Try.prog.bytesOf 104 = 24) ∧
  (Try.prog.bytesOf 105 = 16) ∧
  (Try.prog.bytesOf 106 = 16) ∧
  (Try.prog.bytesOf 107 = 80) ∧
  (Try.prog.bytesOf 108 = 80) ∧
  (Try.prog.bytesOf 109 = 72) ∧
  (Try.prog.bytesOf 110 = 72) ∧
  (Try.prog.bytesOf 111 = 24) ∧
  (Try.prog.bytesOf 112 = 56) ∧
  (Try.prog.bytesOf 113 = 56) ∧
  (Try.prog.bytesOf 114 = 8) ∧
  (Try.prog.bytesOf 116 = 152) ∧
  (Try.prog.bytesOf 117 = 152) ∧
  (Try.prog.bytesOf 121 = 16) ∧
  (Try.prog.bytesOf 126 = 56) ∧
  (Try.prog.bytesOf 127 = 56) ∧
  (Try.prog.bytesOf 140 = 8) ∧
  (Try.prog.bytesOf 143 = 2) ∧
  (Try.prog.bytesOf 144 = 512) ∧
  (Try.prog.bytesOf 169 = 16) ∧
  (Try.prog.bytesOf 170 = 16) ∧
  (Try.prog.bytesOf 172 = 8) ∧
  (Try.prog.bytesOf 173 = 24) ∧
  (Try.prog.bytesOf 174 = 24) ∧
  (Try.prog.bytesOf 175 = 24) ∧
  (Try.prog.bytesOf 176 = 8) ∧
  (Try.prog.bytesOf 179 = 8) ∧
  (Try.prog.bytesOf 186 = 8) ∧
  (Try.prog.bytesOf 188 = 131072) ∧
  (Try.prog.bytesOf 189 = 131072) ∧
  (Try.prog.bytesOf 192 = 8) ∧
  (Try.prog.bytesOf 201 = 4) ∧
  (Try.prog.bytesOf 213 = 8) ∧
  (Try.prog.bytesOf 217 = 8) ∧
  (Try.prog.bytesOf 223 = 8) ∧
  (Try.prog.bytesOf 237 = 8) ∧
  (Try.prog.bytesOf 242 = 24) ∧
  (Try.prog.bytesOf 243 = 24) :=
  ⟨by kernel_rfl, by kernel_rfl, by kernel_rfl, by kernel_rfl, by kernel_rfl, by kernel_rfl, by kernel_rfl, by kernel_rfl, by kernel_rfl, by kernel_rfl, by kernel_rfl, by kernel_rfl, by kernel_rfl, by kernel_rfl, by kernel_rfl, by kernel_rfl, by kernel_rfl, by kernel_rfl, by kernel_rfl, by kernel_rfl, by kernel_rfl, by kernel_rfl, by kernel_rfl, by kernel_rfl, by kernel_rfl, by kernel_rfl, by kernel_rfl, by kernel_rfl, by kernel_rfl, by kernel_rfl, by kernel_rfl, by kernel_rfl, by kernel_rfl, by kernel_rfl, by kernel_rfl, by kernel_rfl, by kernel_rfl, by kernel_rfl, by kernel_rfl, by kernel_rfl, by kernel_rfl, by kernel_rfl, by kernel_rfl, by kernel_rfl, by kernel_rfl, by kernel_rfl, by kernel_rfl, by kernel_rfl, by kernel_rfl, by kernel_rfl, by kernel_rfl, by kernel_rfl, by kernel_rfl, by kernel_rfl, by kernel_rfl, by kernel_rfl, by kernel_rfl, by kernel_rfl, by kernel_rfl, by kernel_rfl, by kernel_rfl, by kernel_rfl, by kernel_rfl, by kernel_rfl, by kernel_rfl, by kernel_rfl, by kernel_rfl, by kernel_rfl, by kernel_rfl, by kernel_rfl, by kernel_rfl, by kernel_rfl, by kernel_rfl, by kernel_rfl, by kernel_rfl, by kernel_rfl, by kernel_rfl, by kernel_rfl, by kernel_rfl, by kernel_rfl, by kernel_rfl, by kernel_rfl, by kernel_rfl, by kernel_rfl, by kernel_rfl, by kernel_rfl, by kernel_rfl, by kernel_rfl, by kernel_rfl⟩
theorem tyA : (aggT Try.prog 2 = false) ∧
  (aggT Try.prog 3 = false) ∧
  (aggT Try.prog 4 = false) ∧
  (aggT Try.prog 5 = false) ∧
  (aggT Try.prog 9 = false) ∧
  (aggT Try.prog 12 = false) ∧
  (aggT Try.prog 13 = true) ∧
  (aggT Try.prog 21 = false) ∧
  (aggT Try.prog 22 = false) ∧
  (aggT Try.prog 24 = false) ∧
  (aggT Try.prog 25 = false) ∧
  (aggT Try.prog 28 = false) ∧
  (aggT Try.prog 30 = false) ∧
  (aggT Try.prog 32 = false) ∧
  (aggT Try.prog 33 = false) ∧
  (aggT Try.prog 34 = true) ∧
  (aggT Try.prog 35 = true) ∧
  (aggT Try.prog 38 = false) ∧
  (aggT Try.prog 40 = false) ∧
  (aggT Try.prog 42 = false) ∧
  (aggT Try.prog 45 = true) ∧
  (aggT Try.prog 46 = true) ∧
  (aggT Try.prog 49 = false) ∧
  (aggT Try.prog 50 = true) ∧
  (aggT Try.prog 51 = true) ∧
  (aggT Try.prog 52 = false) ∧
  (aggT Try.prog 57 = false) ∧
  (aggT Try.prog 58 = false) ∧
  (aggT Try.prog 59 = true) ∧
  (aggT Try.prog 60 = true) ∧
  (aggT Try.prog 61 = false) ∧
  (aggT Try.prog 62 = true) ∧
  (aggT Try.prog 63 = true) ∧
  (aggT Try.prog 64 = true) ∧
  (aggT Try.prog 65 = true) ∧
  (aggT Try.prog 69 = false) ∧
  (aggT Try.prog 74 = false) ∧
  (aggT Try.prog 75 = true) ∧
  (aggT Try.prog 76 = true) ∧
  (aggT Try.prog 77 = true) ∧
  (aggT Try.prog 78 = true) ∧
  (aggT Try.prog 79 = false) ∧
  (aggT Try.prog 86 = false) ∧
  (aggT Try.prog 87 = true) ∧
  (aggT Try.prog 88 = false) ∧
  (aggT Try.prog 92 = false) ∧
  (aggT Try.prog 99 = false) ∧
  (aggT Try.prog 100 = true) ∧
  (aggT Try.prog 101 = true) ∧
  (aggT Try.prog 102 = true) ∧
  (aggT Try.prog 103 = true) ∧
  (aggT Try.prog 104 = false) ∧
  (aggT Try.prog 105 = true) ∧
  (aggT Try.prog 106 = true) ∧
  (aggT Try.prog 107 = true) ∧
  (aggT Try.prog 108 = true) ∧
  (aggT Try.prog 109 = true) ∧
  (aggT Try.prog 110 = true) ∧
  (aggT Try.prog 111 = false) ∧
  (aggT Try.prog 112 = true) ∧
  (aggT Try.prog 113 = true) ∧
  (aggT Try.prog 114 = false) ∧
  (aggT Try.prog 116 = true) ∧
  (aggT Try.prog 117 = true) ∧
  (aggT Try.prog 121 = true) ∧
  (aggT Try.prog 126 = true) ∧
  (aggT Try.prog 127 = true) ∧
  (aggT Try.prog 140 = false) ∧
  (aggT Try.prog 143 = false) ∧
  (aggT Try.prog 144 = true) ∧
  (aggT Try.prog 169 = true) ∧
  (aggT Try.prog 170 = true) ∧
  (aggT Try.prog 172 = false) ∧
  (aggT Try.prog 173 = false) ∧
  (aggT Try.prog 174 = true) ∧
  (aggT Try.prog 175 = true) ∧
  (aggT Try.prog 176 = false) ∧
  (aggT Try.prog 179 = false) ∧
  (aggT Try.prog 186 = false) ∧
  (aggT Try.prog 188 = true) ∧
  (aggT Try.prog 189 = true) ∧
  (aggT Try.prog 192 = false) ∧
  (aggT Try.prog 201 = false) ∧
  (aggT Try.prog 213 = false) ∧
  (aggT Try.prog 217 = false) ∧
  (aggT Try.prog 223 = false) ∧
  (aggT Try.prog 237 = false) ∧
  (aggT Try.prog 242 = true) ∧
  (aggT Try.prog 243 = true) :=
  ⟨by kernel_rfl, by kernel_rfl, by kernel_rfl, by kernel_rfl, by kernel_rfl, by kernel_rfl, by kernel_rfl, by kernel_rfl, by kernel_rfl, by kernel_rfl, by kernel_rfl, by kernel_rfl, by kernel_rfl, by kernel_rfl, by kernel_rfl, by kernel_rfl, by kernel_rfl, by kernel_rfl, by kernel_rfl, by kernel_rfl, by kernel_rfl, by kernel_rfl, by kernel_rfl, by kernel_rfl, by kernel_rfl, by kernel_rfl, by kernel_rfl, by kernel_rfl, by kernel_rfl, by kernel_rfl, by kernel_rfl, by kernel_rfl, by kernel_rfl, by kernel_rfl, by kernel_rfl, by kernel_rfl, by kernel_rfl, by kernel_rfl, by kernel_rfl, by kernel_rfl, by kernel_rfl, by kernel_rfl, by kernel_rfl, by kernel_rfl, by kernel_rfl, by kernel_rfl, by kernel_rfl, by kernel_rfl, by kernel_rfl, by kernel_rfl, by kernel_rfl, by kernel_rfl, by kernel_rfl, by kernel_rfl, by kernel_rfl, by kernel_rfl, by kernel_rfl, by kernel_rfl, by kernel_rfl, by kernel_rfl, by kernel_rfl, by kernel_rfl, by kernel_rfl, by kernel_rfl, by kernel_rfl, by kernel_rfl, by kernel_rfl, by kernel_rfl, by kernel_rfl, by kernel_rfl, by kernel_rfl, by kernel_rfl, by kernel_rfl, by kernel_rfl, by kernel_rfl, by kernel_rfl, by kernel_rfl, by kernel_rfl, by kernel_rfl, by kernel_rfl, by kernel_rfl, by kernel_rfl, by kernel_rfl, by kernel_rfl, by kernel_rfl, by kernel_rfl, by kernel_rfl, by kernel_rfl, by kernel_rfl⟩
theorem tyI : (isIntT Try.prog 2 = some .i64) ∧
  (isIntT Try.prog 3 = some .i64) ∧
  (isIntT Try.prog 4 = none) ∧
  (isIntT Try.prog 5 = some .u8) ∧
  (isIntT Try.prog 9 = none) ∧
  (isIntT Try.prog 12 = some .u64) ∧
  (isIntT Try.prog 13 = none) ∧
  (isIntT Try.prog 21 = some .i32) ∧
  (isIntT Try.prog 22 = none) ∧
  (isIntT Try.prog 24 = none) ∧
  (isIntT Try.prog 25 = some .u64) ∧
  (isIntT Try.prog 28 = none) ∧
  (isIntT Try.prog 30 = none) ∧
  (isIntT Try.prog 32 = none) ∧
  (isIntT Try.prog 33 = none) ∧
  (isIntT Try.prog 34 = none) ∧
  (isIntT Try.prog 35 = none) ∧
  (isIntT Try.prog 38 = none) ∧
  (isIntT Try.prog 40 = none) ∧
  (isIntT Try.prog 42 = none) ∧
  (isIntT Try.prog 45 = none) ∧
  (isIntT Try.prog 46 = none) ∧
  (isIntT Try.prog 49 = none) ∧
  (isIntT Try.prog 50 = none) ∧
  (isIntT Try.prog 51 = none) ∧
  (isIntT Try.prog 52 = some .i64) ∧
  (isIntT Try.prog 57 = none) ∧
  (isIntT Try.prog 58 = none) ∧
  (isIntT Try.prog 59 = none) ∧
  (isIntT Try.prog 60 = none) ∧
  (isIntT Try.prog 61 = none) ∧
  (isIntT Try.prog 62 = none) ∧
  (isIntT Try.prog 63 = none) ∧
  (isIntT Try.prog 64 = none) ∧
  (isIntT Try.prog 65 = none) ∧
  (isIntT Try.prog 69 = none) ∧
  (isIntT Try.prog 74 = none) ∧
  (isIntT Try.prog 75 = none) ∧
  (isIntT Try.prog 76 = none) ∧
  (isIntT Try.prog 77 = none) ∧
  (isIntT Try.prog 78 = none) ∧
  (isIntT Try.prog 79 = none) ∧
  (isIntT Try.prog 86 = none) ∧
  (isIntT Try.prog 87 = none) ∧
  (isIntT Try.prog 88 = none) ∧
  (isIntT Try.prog 92 = some .u16) ∧
  (isIntT Try.prog 99 = none) ∧
  (isIntT Try.prog 100 = none) ∧
  (isIntT Try.prog 101 = none) ∧
  (isIntT Try.prog 102 = none) ∧
  (isIntT Try.prog 103 = none) ∧
  (isIntT Try.prog 104 = none) ∧
  (isIntT Try.prog 105 = none) ∧
  (isIntT Try.prog 106 = none) ∧
  (isIntT Try.prog 107 = none) ∧
  (isIntT Try.prog 108 = none) ∧
  (isIntT Try.prog 109 = none) ∧
  (isIntT Try.prog 110 = none) ∧
  (isIntT Try.prog 111 = none) ∧
  (isIntT Try.prog 112 = none) ∧
  (isIntT Try.prog 113 = none) ∧
  (isIntT Try.prog 114 = none) ∧
  (isIntT Try.prog 116 = none) ∧
  (isIntT Try.prog 117 = none) ∧
  (isIntT Try.prog 121 = none) ∧
  (isIntT Try.prog 126 = none) ∧
  (isIntT Try.prog 127 = none) ∧
  (isIntT Try.prog 140 = none) ∧
  (isIntT Try.prog 143 = some .i16) ∧
  (isIntT Try.prog 144 = none) ∧
  (isIntT Try.prog 169 = none) ∧
  (isIntT Try.prog 170 = none) ∧
  (isIntT Try.prog 172 = none) ∧
  (isIntT Try.prog 173 = none) ∧
  (isIntT Try.prog 174 = none) ∧
  (isIntT Try.prog 175 = none) ∧
  (isIntT Try.prog 176 = none) ∧
  (isIntT Try.prog 179 = none) ∧
  (isIntT Try.prog 186 = some .u64) ∧
  (isIntT Try.prog 188 = none) ∧
  (isIntT Try.prog 189 = none) ∧
  (isIntT Try.prog 192 = some .i64) ∧
  (isIntT Try.prog 201 = some .u32) ∧
  (isIntT Try.prog 213 = some .u64) ∧
  (isIntT Try.prog 217 = none) ∧
  (isIntT Try.prog 223 = none) ∧
  (isIntT Try.prog 237 = none) ∧
  (isIntT Try.prog 242 = none) ∧
  (isIntT Try.prog 243 = none) :=
  ⟨by kernel_rfl, by kernel_rfl, by kernel_rfl, by kernel_rfl, by kernel_rfl, by kernel_rfl, by kernel_rfl, by kernel_rfl, by kernel_rfl, by kernel_rfl, by kernel_rfl, by kernel_rfl, by kernel_rfl, by kernel_rfl, by kernel_rfl, by kernel_rfl, by kernel_rfl, by kernel_rfl, by kernel_rfl, by kernel_rfl, by kernel_rfl, by kernel_rfl, by kernel_rfl, by kernel_rfl, by kernel_rfl, by kernel_rfl, by kernel_rfl, by kernel_rfl, by kernel_rfl, by kernel_rfl, by kernel_rfl, by kernel_rfl, by kernel_rfl, by kernel_rfl, by kernel_rfl, by kernel_rfl, by kernel_rfl, by kernel_rfl, by kernel_rfl, by kernel_rfl, by kernel_rfl, by kernel_rfl, by kernel_rfl, by kernel_rfl, by kernel_rfl, by kernel_rfl, by kernel_rfl, by kernel_rfl, by kernel_rfl, by kernel_rfl, by kernel_rfl, by kernel_rfl, by kernel_rfl, by kernel_rfl, by kernel_rfl, by kernel_rfl, by kernel_rfl, by kernel_rfl, by kernel_rfl, by kernel_rfl, by kernel_rfl, by kernel_rfl, by kernel_rfl, by kernel_rfl, by kernel_rfl, by kernel_rfl, by kernel_rfl, by kernel_rfl, by kernel_rfl, by kernel_rfl, by kernel_rfl, by kernel_rfl, by kernel_rfl, by kernel_rfl, by kernel_rfl, by kernel_rfl, by kernel_rfl, by kernel_rfl, by kernel_rfl, by kernel_rfl, by kernel_rfl, by kernel_rfl, by kernel_rfl, by kernel_rfl, by kernel_rfl, by kernel_rfl, by kernel_rfl, by kernel_rfl, by kernel_rfl⟩
theorem tyZ : (zeroCells Try.prog 2 = some [.int .i64 0]) ∧
  (zeroCells Try.prog 3 = some [.int .i64 0]) ∧
  (zeroCells Try.prog 4 = some [.bool false]) ∧
  (zeroCells Try.prog 5 = some [.int .u8 0]) ∧
  (zeroCells Try.prog 9 = some [.str .empty]) ∧
  (zeroCells Try.prog 12 = some [.int .u64 0]) ∧
  (zeroCells Try.prog 13 = some [.str .empty, .int .u64 0]) ∧
  (zeroCells Try.prog 21 = some [.int .i32 0]) ∧
  (zeroCells Try.prog 22 = some [.nils]) ∧
  (zeroCells Try.prog 24 = some [.nils]) ∧
  (zeroCells Try.prog 25 = some [.int .u64 0]) ∧
  (zeroCells Try.prog 28 = some [.nils]) ∧
  (zeroCells Try.prog 30 = some [.nilp]) ∧
  (zeroCells Try.prog 32 = some [.nils]) ∧
  (zeroCells Try.prog 33 = some [.nils]) ∧
  (zeroCells Try.prog 34 = some [.nils, .nils, .int .i64 0, .int .i64 0]) ∧
  (zeroCells Try.prog 35 = some [.nils, .nils, .int .i64 0, .int .i64 0]) ∧
  (zeroCells Try.prog 38 = some [.nils]) ∧
  (zeroCells Try.prog 40 = some [.nils]) ∧
  (zeroCells Try.prog 42 = some [.nils]) ∧
  (zeroCells Try.prog 45 = some [.int .i64 0, .int .i64 0]) ∧
  (zeroCells Try.prog 46 = some [.int .i64 0, .int .i64 0]) ∧
  (zeroCells Try.prog 49 = some [.nils]) ∧
  (zeroCells Try.prog 50 = some [.nils]) ∧
  (zeroCells Try.prog 51 = some [.nils]) ∧
  (zeroCells Try.prog 52 = some [.int .i64 0]) ∧
  (zeroCells Try.prog 57 = some [.nils]) ∧
  (zeroCells Try.prog 58 = some [.nils]) ∧
  (zeroCells Try.prog 59 = some [.int .i64 0, .nils, .nils, .nils]) ∧
  (zeroCells Try.prog 60 = some [.int .i64 0, .nils, .nils, .nils]) ∧
  (zeroCells Try.prog 61 = some [.nils]) ∧
  (zeroCells Try.prog 62 = some [.int .i64 0, .int .i64 0, .nils]) ∧
  (zeroCells Try.prog 63 = some [.int .i64 0, .int .i64 0, .nils]) ∧
  (zeroCells Try.prog 64 = some [.int .i64 0, .int .i64 0]) ∧
  (zeroCells Try.prog 65 = some [.int .i64 0, .int .i64 0]) ∧
  (zeroCells Try.prog 69 = some [.nils]) ∧
  (zeroCells Try.prog 74 = some [.nils]) ∧
  (zeroCells Try.prog 75 = some [.nils, .nils]) ∧
  (zeroCells Try.prog 76 = some [.nils, .nils]) ∧
  (zeroCells Try.prog 77 = some [.int .i64 0, .int .i64 0, .int .i64 0, .int .i64 0, .int .i64 0]) ∧
  (zeroCells Try.prog 78 = some [.int .i64 0, .int .i64 0, .int .i64 0, .int .i64 0, .int .i64 0]) ∧
  (zeroCells Try.prog 79 = some [.nils]) ∧
  (zeroCells Try.prog 86 = some [.nilp]) ∧
  (zeroCells Try.prog 87 = some [.nils, .nils, .nils, .int .i64 0, .nils]) ∧
  (zeroCells Try.prog 88 = some [.nils]) ∧
  (zeroCells Try.prog 92 = some [.int .u16 0]) ∧
  (zeroCells Try.prog 99 = some [.nilm]) ∧
  (zeroCells Try.prog 100 = some [.nils, .int .i64 0]) ∧
  (zeroCells Try.prog 101 = some [.nils, .int .i64 0]) ∧
  (zeroCells Try.prog 102 = some [.int .i64 0, .int .i64 0, .int .i64 0, .int .i64 0]) ∧
  (zeroCells Try.prog 103 = some [.int .i64 0, .int .i64 0, .int .i64 0, .int .i64 0]) ∧
  (zeroCells Try.prog 104 = some [.nils]) ∧
  (zeroCells Try.prog 105 = some [.int .i64 0, .int .i64 0]) ∧
  (zeroCells Try.prog 106 = some [.int .i64 0, .int .i64 0]) ∧
  (zeroCells Try.prog 107 = some [.nils, .int .i64 0, .int .i64 0, .int .i64 0, .int .i64 0, .int .i64 0, .int .i64 0, .int .i64 0]) ∧
  (zeroCells Try.prog 108 = some [.nils, .int .i64 0, .int .i64 0, .int .i64 0, .int .i64 0, .int .i64 0, .int .i64 0, .int .i64 0]) ∧
  (zeroCells Try.prog 109 = some [.int .i64 0, .int .i64 0, .int .i64 0, .int .i64 0, .int .i64 0, .int .i64 0, .nils]) ∧
  (zeroCells Try.prog 110 = some [.int .i64 0, .int .i64 0, .int .i64 0, .int .i64 0, .int .i64 0, .int .i64 0, .nils]) ∧
  (zeroCells Try.prog 111 = some [.nils]) ∧
  (zeroCells Try.prog 112 = some [.str .empty, .int .i64 0, .int .i64 0, .nils]) ∧
  (zeroCells Try.prog 113 = some [.str .empty, .int .i64 0, .int .i64 0, .nils]) ∧
  (zeroCells Try.prog 114 = some [.nilp]) ∧
  (zeroCells Try.prog 116 = some [.nils, .nils, .nils, .nils, .nils, .int .i64 0, .nils]) ∧
  (zeroCells Try.prog 117 = some [.nils, .nils, .nils, .nils, .nils, .int .i64 0, .nils]) ∧
  (zeroCells Try.prog 121 = some [.int .i64 0, .int .i64 0]) ∧
  (zeroCells Try.prog 126 = some [.nils, .int .i64 0, .nils]) ∧
  (zeroCells Try.prog 127 = some [.nils, .int .i64 0, .nils]) ∧
  (zeroCells Try.prog 140 = some [.nilp]) ∧
  (zeroCells Try.prog 143 = some [.int .i16 0]) ∧
  (zeroCells Try.prog 169 = some [.bool false, .int .i64 0]) ∧
  (zeroCells Try.prog 170 = some [.bool false, .int .i64 0]) ∧
  (zeroCells Try.prog 172 = some [.nilm]) ∧
  (zeroCells Try.prog 173 = some [.nils]) ∧
  (zeroCells Try.prog 174 = some [.int .i64 0, .int .i64 0, .int .i64 0]) ∧
  (zeroCells Try.prog 175 = some [.int .i64 0, .int .i64 0, .int .i64 0]) ∧
  (zeroCells Try.prog 176 = some [.nilp]) ∧
  (zeroCells Try.prog 179 = some [.nilp]) ∧
  (zeroCells Try.prog 186 = some [.int .u64 0]) ∧
  (zeroCells Try.prog 192 = some [.int .i64 0]) ∧
  (zeroCells Try.prog 201 = some [.int .u32 0]) ∧
  (zeroCells Try.prog 213 = some [.int .u64 0]) ∧
  (zeroCells Try.prog 217 = some [.nilp]) ∧
  (zeroCells Try.prog 223 = some [.nilp]) ∧
  (zeroCells Try.prog 237 = some [.nilp]) ∧
  (zeroCells Try.prog 242 = some [.str .empty, .int .i64 0]) ∧
  (zeroCells Try.prog 243 = some [.str .empty, .int .i64 0]) :=
  ⟨by kernel_rfl, by kernel_rfl, by kernel_rfl, by kernel_rfl, by kernel_rfl, by kernel_rfl, by kernel_rfl, by kernel_rfl, by kernel_rfl, by kernel_rfl, by kernel_rfl, by kernel_rfl, by kernel_rfl, by kernel_rfl, by kernel_rfl, by kernel_rfl, by kernel_rfl, by kernel_rfl, by kernel_rfl, by kernel_rfl, by kernel_rfl, by kernel_rfl, by kernel_rfl, by kernel_rfl, by kernel_rfl, by kernel_rfl, by kernel_rfl, by kernel_rfl, by kernel_rfl, by kernel_rfl, by kernel_rfl, by kernel_rfl, by kernel_rfl, by kernel_rfl, by kernel_rfl, by kernel_rfl, by kernel_rfl, by kernel_rfl, by kernel_rfl, by kernel_rfl, by kernel_rfl, by kernel_rfl, by kernel_rfl, by kernel_rfl, by kernel_rfl, by kernel_rfl, by kernel_rfl, by kernel_rfl, by kernel_rfl, by kernel_rfl, by kernel_rfl, by kernel_rfl, by kernel_rfl, by kernel_rfl, by kernel_rfl, by kernel_rfl, by kernel_rfl, by kernel_rfl, by kernel_rfl, by kernel_rfl, by kernel_rfl, by kernel_rfl, by kernel_rfl, by kernel_rfl, by kernel_rfl, by kernel_rfl, by kernel_rfl, by kernel_rfl, by kernel_rfl, by kernel_rfl, by kernel_rfl, by kernel_rfl, by kernel_rfl, by kernel_rfl, by kernel_rfl, by kernel_rfl, by kernel_rfl, by kernel_rfl, by kernel_rfl, by kernel_rfl, by kernel_rfl, by kernel_rfl, by kernel_rfl, by kernel_rfl, by kernel_rfl, by kernel_rfl⟩
theorem tyF : ((#[{ name := "msg", type := 9, offset := 0, embedded := false, tag := "", pkgPath := "runtime", byteOffset := 0 }, { name := "addr", type := 12, offset := 1, embedded := false, tag := "", pkgPath := "runtime", byteOffset := 16 }] : Array Field).all (fun f => (Try.prog.info? f.type).isSome) = true) ∧
  ((#[{ name := "Globals", type := 32, offset := 0, embedded := false, tag := "", pkgPath := "", byteOffset := 0 }, { name := "Funcs", type := 33, offset := 1, embedded := false, tag := "", pkgPath := "", byteOffset := 24 }, { name := "Callable", type := 3, offset := 2, embedded := false, tag := "", pkgPath := "", byteOffset := 48 }, { name := "Counters", type := 3, offset := 3, embedded := false, tag := "", pkgPath := "", byteOffset := 56 }] : Array Field).all (fun f => (Try.prog.info? f.type).isSome) = true) ∧
  ((#[{ name := "Num", type := 3, offset := 0, embedded := false, tag := "", pkgPath := "", byteOffset := 0 }, { name := "Den", type := 3, offset := 1, embedded := false, tag := "", pkgPath := "", byteOffset := 8 }] : Array Field).all (fun f => (Try.prog.info? f.type).isSome) = true) ∧
  ((#[{ name := "Funcs", type := 49, offset := 0, embedded := false, tag := "", pkgPath := "", byteOffset := 0 }] : Array Field).all (fun f => (Try.prog.info? f.type).isSome) = true) ∧
  ((#[{ name := "Entries", type := 3, offset := 0, embedded := false, tag := "", pkgPath := "", byteOffset := 0 }, { name := "Blocks", type := 40, offset := 1, embedded := false, tag := "", pkgPath := "", byteOffset := 8 }, { name := "Edges", type := 57, offset := 2, embedded := false, tag := "", pkgPath := "", byteOffset := 32 }, { name := "Sites", type := 58, offset := 3, embedded := false, tag := "", pkgPath := "", byteOffset := 56 }] : Array Field).all (fun f => (Try.prog.info? f.type).isSome) = true) ∧
  ((#[{ name := "Block", type := 3, offset := 0, embedded := false, tag := "", pkgPath := "", byteOffset := 0 }, { name := "Instr", type := 3, offset := 1, embedded := false, tag := "", pkgPath := "", byteOffset := 8 }, { name := "Targets", type := 61, offset := 2, embedded := false, tag := "", pkgPath := "", byteOffset := 16 }] : Array Field).all (fun f => (Try.prog.info? f.type).isSome) = true) ∧
  ((#[{ name := "Func", type := 3, offset := 0, embedded := false, tag := "", pkgPath := "", byteOffset := 0 }, { name := "Count", type := 3, offset := 1, embedded := false, tag := "", pkgPath := "", byteOffset := 8 }] : Array Field).all (fun f => (Try.prog.info? f.type).isSome) = true) ∧
  ((#[{ name := "Entries", type := 40, offset := 0, embedded := false, tag := "", pkgPath := "", byteOffset := 0 }, { name := "Calls", type := 74, offset := 1, embedded := false, tag := "", pkgPath := "", byteOffset := 24 }] : Array Field).all (fun f => (Try.prog.info? f.type).isSome) = true) ∧
  ((#[{ name := "Func", type := 3, offset := 0, embedded := false, tag := "", pkgPath := "", byteOffset := 0 }, { name := "Block", type := 3, offset := 1, embedded := false, tag := "", pkgPath := "", byteOffset := 8 }, { name := "Instr", type := 3, offset := 2, embedded := false, tag := "", pkgPath := "", byteOffset := 16 }, { name := "Callee", type := 3, offset := 3, embedded := false, tag := "", pkgPath := "", byteOffset := 24 }, { name := "Count", type := 3, offset := 4, embedded := false, tag := "", pkgPath := "", byteOffset := 32 }] : Array Field).all (fun f => (Try.prog.info? f.type).isSome) = true) ∧
  ((#[{ name := "sizes", type := 40, offset := 0, embedded := false, tag := "", pkgPath := "warmpath/warmpathlaw38", byteOffset := 0 }, { name := "g", type := 76, offset := 1, embedded := false, tag := "", pkgPath := "warmpath/warmpathlaw38", byteOffset := 24 }, { name := "page", type := 3, offset := 3, embedded := false, tag := "", pkgPath := "warmpath/warmpathlaw38", byteOffset := 72 }, { name := "l", type := 40, offset := 4, embedded := false, tag := "", pkgPath := "warmpath/warmpathlaw38", byteOffset := 80 }] : Array Field).all (fun f => (Try.prog.info? f.type).isSome) = true) ∧
  ((#[{ name := "l", type := 22, offset := 0, embedded := false, tag := "", pkgPath := "warmpath/warmpathdraw", byteOffset := 0 }, { name := "at", type := 3, offset := 1, embedded := false, tag := "", pkgPath := "warmpath/warmpathdraw", byteOffset := 24 }] : Array Field).all (fun f => (Try.prog.info? f.type).isSome) = true) ∧
  ((#[{ name := "Kind", type := 3, offset := 0, embedded := false, tag := "", pkgPath := "", byteOffset := 0 }, { name := "A", type := 3, offset := 1, embedded := false, tag := "", pkgPath := "", byteOffset := 8 }, { name := "To", type := 3, offset := 2, embedded := false, tag := "", pkgPath := "", byteOffset := 16 }, { name := "Else", type := 3, offset := 3, embedded := false, tag := "", pkgPath := "", byteOffset := 24 }] : Array Field).all (fun f => (Try.prog.info? f.type).isSome) = true) ∧
  ((#[{ name := "Func", type := 3, offset := 0, embedded := false, tag := "", pkgPath := "", byteOffset := 0 }, { name := "Block", type := 3, offset := 1, embedded := false, tag := "", pkgPath := "", byteOffset := 8 }] : Array Field).all (fun f => (Try.prog.info? f.type).isSome) = true) ∧
  ((#[{ name := "Instrs", type := 104, offset := 0, embedded := false, tag := "", pkgPath := "", byteOffset := 0 }, { name := "Term", type := 103, offset := 1, embedded := false, tag := "", pkgPath := "", byteOffset := 24 }, { name := "Line", type := 3, offset := 5, embedded := false, tag := "", pkgPath := "", byteOffset := 56 }, { name := "Origin", type := 106, offset := 6, embedded := false, tag := "", pkgPath := "", byteOffset := 64 }] : Array Field).all (fun f => (Try.prog.info? f.type).isSome) = true) ∧
  ((#[{ name := "Kind", type := 3, offset := 0, embedded := false, tag := "", pkgPath := "", byteOffset := 0 }, { name := "Op", type := 3, offset := 1, embedded := false, tag := "", pkgPath := "", byteOffset := 8 }, { name := "Dst", type := 3, offset := 2, embedded := false, tag := "", pkgPath := "", byteOffset := 16 }, { name := "A", type := 3, offset := 3, embedded := false, tag := "", pkgPath := "", byteOffset := 24 }, { name := "B", type := 3, offset := 4, embedded := false, tag := "", pkgPath := "", byteOffset := 32 }, { name := "Value", type := 3, offset := 5, embedded := false, tag := "", pkgPath := "", byteOffset := 40 }, { name := "Args", type := 40, offset := 6, embedded := false, tag := "", pkgPath := "", byteOffset := 48 }] : Array Field).all (fun f => (Try.prog.info? f.type).isSome) = true) ∧
  ((#[{ name := "Name", type := 9, offset := 0, embedded := false, tag := "", pkgPath := "", byteOffset := 0 }, { name := "Params", type := 3, offset := 1, embedded := false, tag := "", pkgPath := "", byteOffset := 16 }, { name := "Regs", type := 3, offset := 2, embedded := false, tag := "", pkgPath := "", byteOffset := 24 }, { name := "Blocks", type := 111, offset := 3, embedded := false, tag := "", pkgPath := "", byteOffset := 32 }] : Array Field).all (fun f => (Try.prog.info? f.type).isSome) = true) ∧
  ((#[{ name := "calls", type := 28, offset := 0, embedded := false, tag := "", pkgPath := "warmpath/callgraph", byteOffset := 0 }, { name := "number", type := 40, offset := 1, embedded := false, tag := "", pkgPath := "warmpath/callgraph", byteOffset := 24 }, { name := "low", type := 40, offset := 2, embedded := false, tag := "", pkgPath := "warmpath/callgraph", byteOffset := 48 }, { name := "set", type := 40, offset := 3, embedded := false, tag := "", pkgPath := "warmpath/callgraph", byteOffset := 72 }, { name := "stack", type := 40, offset := 4, embedded := false, tag := "", pkgPath := "warmpath/callgraph", byteOffset := 96 }, { name := "found", type := 3, offset := 5, embedded := false, tag := "", pkgPath := "warmpath/callgraph", byteOffset := 120 }, { name := "sets", type := 28, offset := 6, embedded := false, tag := "", pkgPath := "warmpath/callgraph", byteOffset := 128 }] : Array Field).all (fun f => (Try.prog.info? f.type).isSome) = true) ∧
  ((#[{ name := "weights", type := 40, offset := 0, embedded := false, tag := "", pkgPath := "warmpath/weight", byteOffset := 0 }, { name := "den", type := 3, offset := 1, embedded := false, tag := "", pkgPath := "warmpath/weight", byteOffset := 24 }, { name := "l", type := 49, offset := 2, embedded := false, tag := "", pkgPath := "warmpath/weight", byteOffset := 32 }] : Array Field).all (fun f => (Try.prog.info? f.type).isSome) = true) ∧
  ((#[{ name := "known", type := 4, offset := 0, embedded := false, tag := "", pkgPath := "warmpath/weight", byteOffset := 0 }, { name := "total", type := 3, offset := 1, embedded := false, tag := "", pkgPath := "warmpath/weight", byteOffset := 8 }] : Array Field).all (fun f => (Try.prog.info? f.type).isSome) = true) ∧
  ((#[{ name := "block", type := 3, offset := 0, embedded := false, tag := "", pkgPath := "warmpath/weight", byteOffset := 0 }, { name := "instr", type := 3, offset := 1, embedded := false, tag := "", pkgPath := "warmpath/weight", byteOffset := 8 }, { name := "fn", type := 3, offset := 2, embedded := false, tag := "", pkgPath := "warmpath/weight", byteOffset := 16 }] : Array Field).all (fun f => (Try.prog.info? f.type).isSome) = true) ∧
  ((#[{ name := "Name", type := 9, offset := 0, embedded := false, tag := "", pkgPath := "", byteOffset := 0 }, { name := "Size", type := 3, offset := 1, embedded := false, tag := "", pkgPath := "", byteOffset := 16 }] : Array Field).all (fun f => (Try.prog.info? f.type).isSome) = true) :=
  ⟨by kernel_rfl, by kernel_rfl, by kernel_rfl, by kernel_rfl, by kernel_rfl, by kernel_rfl, by kernel_rfl, by kernel_rfl, by kernel_rfl, by kernel_rfl, by kernel_rfl, by kernel_rfl, by kernel_rfl, by kernel_rfl, by kernel_rfl, by kernel_rfl, by kernel_rfl, by kernel_rfl, by kernel_rfl, by kernel_rfl, by kernel_rfl⟩
theorem tyP : (zeroP Try.prog 3 = some (.int .i64 0)) ∧
  (zeroP Try.prog 176 = some (.nilp)) :=
  ⟨by kernel_rfl, by kernel_rfl⟩
end Go.Proofs.Ythginmfobikdgaa
